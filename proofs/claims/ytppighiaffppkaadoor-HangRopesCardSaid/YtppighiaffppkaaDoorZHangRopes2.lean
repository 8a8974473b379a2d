/- What the statement HangRopes needs beyond the common part: walks of the functions that it calls, the plain law, the row and its card, part 2. Condition: the laid table hang.tens, as the card ties it. -/
import Derived.Test.YtppighiaffppkaaDoorRows
import Derived.Test.YtppighiaffppkaaDoorCards
import Derived.Test.YtppighiaffppkaaDoorTie
import Derived.WalkKit
import Derived.ProofKit
import Derived.OpenShut
import Derived.ShutString
import Derived.ChangeOld
import Derived.Below
import Derived.SizedLaws
import Derived.LaidMore
import Derived.Stop.Joined
import Derived.SevenTiedAt
import Derived.Test.YtppighiaffppkaaDoorZHangRopes1
section
namespace Go.Proofs.YtppighiaffppkaaDoor.H
open Go.RowKit Go.Proofs.YtppighiaffppkaaDoorW.PrintWords Go.Proofs.YtppighiaffppkaaDoorW.PrintLast Go.Proofs.YtppighiaffppkaaDoorW.PrintMore
set_option linter.unusedSimpArgs false
set_option linter.unusedVariables false
theorem getD_nat8 {α : Type} (l : List α) (z : α) {i : Nat} (h : i < l.length) : l.getD ((i : Int).toNat) z = l[i] := by
 simp [List.getD_eq_getElem?_getD, h]
theorem rd112 {l : List S112} {i : Nat} (h : i < l.length) : rd_T112 l (i : Int) = l[i] := getD_nat8 l z112 h
theorem rd131 {l : List S131} {i : Nat} (h : i < l.length) : rd_T131 l (i : Int) = l[i] := getD_nat8 l z131 h
def cSec (x : S112) : S131 := ⟨x.f0, ⟨x.f1.f0, x.f1.f1⟩⟩
theorem ShortSections_loop (l : List S112) (hl : l.length ≤ 9223372036854775807) : ∀ (d i : Nat), i + d = l.length → ∃ b, Ev (fun k => cr6_ShortSections.l0 k l (i : Int)) b := by
 intro d
 induction d with
 | zero => intro i hi; exact ⟨true, Ev.step (fun _ => rfl) (Ev.neg (by omega) (Ev.now _))⟩
 | succ d ih =>
  intro i hi
  obtain ⟨b, hb⟩ := ih (i + 1) (by omega)
  have hw : wrap64 ((i : Int) + 1) = ((i + 1 : Nat) : Int) := by rw [wrap_id (by omega) (by omega)]; omega
  by_cases h : (rd_T112 l (i : Int)).f0 > 12
  ·by_cases g : (rd_T112 l (i : Int)).f0 ≤ 300
   ·exact ⟨false, Ev.step (fun _ => rfl) (Ev.pos (by omega) (Ev.pos (by omega) (Ev.pos h (Ev.pos g (Ev.now _)))))⟩
   ·refine ⟨b, Ev.step (fun _ => rfl) (Ev.pos (by omega) (Ev.pos (by omega) (Ev.pos h (Ev.neg g ?_))))⟩
    rw [hw]; exact hb
  ·refine ⟨b, Ev.step (fun _ => rfl) (Ev.pos (by omega) (Ev.pos (by omega) (Ev.neg h ?_)))⟩
   rw [hw]; exact hb
theorem ShortSections_ev (l : List S112) (hl : l.length ≤ 9223372036854775807) : ∃ b, Ev (fun k => cr6_ShortSections.f k l) b ∧ (b = true → l.length ≤ 33) := by
 obtain ⟨b, hb⟩ := ShortSections_loop l hl l.length 0 (by omega)
 by_cases h : (l.length : Int) > 5
 ·by_cases g : ((l.length : Int) != 33) = true
  ·exact ⟨false, Ev.pos h (Ev.step (fun _ => rfl) (Ev.pos g (Ev.now _))), fun e => by cases e⟩
  ·refine ⟨b, Ev.pos h (Ev.step (fun _ => rfl) (Ev.neg g hb)), fun _ => ?_⟩
   simp at g; omega
 ·exact ⟨b, Ev.neg h (Ev.step (fun _ => rfl) (Ev.neg (c := false = true) (g := fun _ => Option.some false) (by decide) hb)), fun _ => by omega⟩
theorem sections_loop (l : List S112) (hl : l.length ≤ 33) : ∀ (d i : Nat), i + d = l.length → Ev (fun k => cl6_sections.l0 k ((l.take i).map cSec) l (l.length : Int) (i : Int)) (l.map cSec) := by
 intro d
 induction d with
 | zero =>
  intro i hi
  have e : l.take i = l := List.take_of_length_le (by omega)
  rw [e]
  exact Ev.step (fun _ => rfl) (Ev.neg (by omega) (Ev.now _))
 | succ d ih =>
  intro i hi
  refine Ev.step (fun _ => rfl) (Ev.pos (by omega) (Ev.pos (by omega) (Ev.pos (by omega) (Ev.pos (by simp; omega) ?_))))
  rw [wrap_id (x := (i : Int) + 1) (by omega) (by omega), rd112 (by omega)]
  have e : (l.take i).map cSec ++ [(⟨(l[i]'(by omega)).f0, (⟨(l[i]'(by omega)).f1.f0, (l[i]'(by omega)).f1.f1⟩ : S23)⟩ : S131)] = (l.take (i + 1)).map cSec := by
   rw [List.take_succ_eq_append_getElem (by omega), List.map_append]; rfl
  rw [e]
  exact ih (i + 1) (by omega)
theorem sections_ev (l : List S112) (hl : l.length ≤ 33) : Ev (fun k => cl6_sections.f k l) (l.map cSec) := sections_loop l hl l.length 0 (by omega)
def secE (x : S112) : Int := firstE [rangeE x.f0 1 300, checkR x.f1.f0 x.f1.f1]
def secsE (l : List S112) : Int := if l.length = 0 then 12 else if l.length > 32 then 5 else firstE (l.map secE)
theorem sec1_ev (m p q : Int) : Ev (fun k => hang_checkSections_1.f k m p q) (firstE [rangeE m 1 300, checkR p q]) := by
 unfold hang_checkSections_1.f
 exact Ev.eqb (checkMeshes_eq ..) ((hang_CheckRatio_ev p q).bind ((hang_first_ev _ (by simp)).bind (Ev.some rfl)))
theorem secErrs_loop (l : List S112) (hl : l.length ≤ 33) : ∀ (d i : Nat), i + d = l.length → ∃ K, ∀ c k, K ≤ c → K ≤ k → api_Errno_106.l0 (fun x0 x1 x2 => hang_checkSections_1.f c x0 x1 x2) k ((l.take i).map secE) (l.map cSec) ((l.map cSec).length : Int) (i : Int) = some (l.map secE) := by
 have hm : (l.map cSec).length = l.length := by simp
 intro d
 induction d with
 | zero =>
  intro i hi
  refine ⟨1, fun c k hc hk => ?_⟩
  obtain ⟨k, rfl⟩ : ∃ m, k = m + 1 := ⟨k - 1, by omega⟩
  have e : l.take i = l := List.take_of_length_le (by omega)
  rw [e]
  simp only [api_Errno_106.l0]
  rw [if_neg (by omega)]
 | succ d ih =>
  intro i hi
  have hil : i < l.length := by omega
  obtain ⟨K, hK⟩ := ih (i + 1) (by omega)
  obtain ⟨K2, hK2⟩ := sec1_ev l[i].f0 l[i].f1.f0 l[i].f1.f1
  refine ⟨K + K2 + 1, fun c k hc hk => ?_⟩
  obtain ⟨k, rfl⟩ : ∃ m, k = m + 1 := ⟨k - 1, by omega⟩
  have r : rd_T131 (l.map cSec) (i : Int) = cSec l[i] := by rw [rd131 (by omega)]; simp
  simp only [api_Errno_106.l0]
  have e' : hang_checkSections_1.f c (cSec l[i]).f0 (cSec l[i]).f1.f0 (cSec l[i]).f1.f1 = some (secE l[i]) := hK2 c (by omega)
  rw [if_pos (by omega), if_pos (by omega), if_pos (by omega), r, e', Option.bind_some, if_pos (by simp; omega), wrap_id (x := (i : Int) + 1) (by omega) (by omega)]
  have e : (l.take i).map secE ++ [secE l[i]] = (l.take (i + 1)).map secE := by
   rw [List.take_succ_eq_append_getElem (by omega), List.map_append]; rfl
  rw [e]
  exact hK c k (by omega) (by omega)
theorem secErrs_ev (l : List S112) (hl : l.length ≤ 33) : Ev (fun k => hang_secErrs.f k (l.map cSec)) (l.map secE) := by
 obtain ⟨K, hK⟩ := secErrs_loop l hl l.length 0 (by omega)
 exact ⟨K, fun k hk => by simpa [hang_secErrs.f, api_Errno_106.f] using hK k k hk hk⟩
theorem hang_checkSections_ev (l : List S112) (hl : l.length ≤ 33) : Ev (fun k => hang_checkSections.f k (l.map cSec)) (secsE l) := by
 have hm : (l.map cSec).length = l.length := by simp
 unfold hang_checkSections.f
 rw [hm]
 refine Ev.eqb (hang_when_eq ..) (Ev.eqb (hang_when_eq ..) ((hang_first_ev _ (by simp)).bind ?_))
 unfold secsE
 rw [firstE_two]
 by_cases h0 : l.length = 0
 ·have e : whenE ((l.length : Int) == 0) 12 = 12 := by rw [h0]; rfl
  rw [e, if_pos h0, if_neg (by decide)]
  exact Ev.neg (by decide) (Ev.now _)
 ·have e : whenE ((l.length : Int) == 0) 12 = 0 := by
   unfold whenE
   rw [if_neg (fun hz => by have := eq_of_beq hz; omega)]
  rw [e, if_neg h0, if_pos rfl]
  by_cases h1 : l.length > 32
  ·have e : whenE (decide ((l.length : Int) > 32)) 5 = 5 := by unfold whenE; rw [if_pos (decide_eq_true (by omega))]
   rw [e, if_pos h1]
   exact Ev.neg (by decide) (Ev.now _)
  ·have e : whenE (decide ((l.length : Int) > 32)) 5 = 0 := by unfold whenE; rw [if_neg (by rw [decide_eq_true_eq]; omega)]
   rw [e, if_neg h1]
   exact Ev.pos rfl ((secErrs_ev l hl).bind ((hang_first_ev _ (by simp; omega)).bind (Ev.some rfl)))
theorem ref_CheckSections_loop (l : List S112) (hl : l.length ≤ 33) : ∀ (d i : Nat), i + d = l.length → Ev (fun k => cr6_CheckSections.l0 k l (i : Int)) (firstE ((l.drop i).map secE)) := by
 intro d
 induction d with
 | zero =>
  intro i hi
  rw [List.drop_eq_nil_of_le (by omega)]
  exact Ev.step (fun _ => rfl) (Ev.neg (by omega) (Ev.now _))
 | succ d ih =>
  intro i hi
  have e : l.drop i = l[i]'(by omega) :: l.drop (i + 1) := List.drop_eq_getElem_cons (by omega)
  rw [e, List.map_cons]
  unfold firstE
  refine Ev.step (fun _ => rfl) (Ev.pos (by omega) (Ev.pos (by omega) ?_))
  rw [rd112 (by omega), wrap_id (x := (i : Int) + 1) (by omega) (by omega)]
  refine Ev.eqb (ref_CheckRange_eq ..) ((ref_CheckRatio_ev ..).bind ((ref_First_ev _ (by simp)).bind ?_))
  by_cases h : secE (l[i]'(by omega)) = 0
  ·refine Ev.pos h ?_
   rw [if_pos h]
   exact ih (i + 1) (by omega)
  ·refine Ev.neg h ?_
   rw [if_neg h]
   exact Ev.now _
theorem ref_CheckSections_ev (l : List S112) (hl : l.length ≤ 33) : Ev (fun k => cr6_CheckSections.f k l) (secsE l) := by
 unfold secsE
 by_cases h0 : l.length = 0
 ·rw [if_pos h0]; exact Ev.pos (by omega) (Ev.now _)
 ·rw [if_neg h0]
  refine Ev.neg (by omega) ?_
  by_cases h1 : l.length > 32
  ·rw [if_pos h1]; exact Ev.pos (by omega) (Ev.now _)
  ·rw [if_neg h1]
   refine Ev.neg (by omega) ?_
   exact ref_CheckSections_loop l hl l.length 0 (by omega)
theorem firstE_all : ∀ {l : List Int}, firstE l = 0 → ∀ x ∈ l, x = 0 := by
 intro l
 induction l with
 | nil => intro _ x hx; cases hx
 | cons y t ih =>
  intro h x hx
  unfold firstE at h
  split at h
  ·rcases List.mem_cons.1 hx with rfl | hx
   ·assumption
   ·exact ih h x hx
  ·contradiction
def Val (x : S112) : Prop := 1 ≤ x.f0 ∧ x.f0 ≤ 300 ∧ 1 ≤ x.f1.f0 ∧ x.f1.f0 ≤ x.f1.f1 ∧ x.f1.f1 ≤ 30
theorem secsE_ok {l : List S112} (h : secsE l = 0) : 1 ≤ l.length ∧ l.length ≤ 32 ∧ ∀ x ∈ l, Val x := by
 unfold secsE at h
 split at h
 ·omega
 ·split at h
  ·omega
  ·refine ⟨by omega, by omega, fun x hx => ?_⟩
   have := firstE_all h (secE x) (List.mem_map_of_mem hx)
   obtain ⟨a, b⟩ := firstE_ok2 this
   have a := rangeE_ok a
   have b := checkR_ok b
   exact ⟨a.1, a.2, b.1, b.2.1, b.2.2.1⟩
def stX (bar : Int) (x : S112) : Int := 2 * bar * x.f1.f0 * (2329089562800 / x.f1.f1)
theorem st_bd {bar : Int} {x : S112} (hb1 : 1 ≤ bar) (hb2 : bar ≤ 100) (h : Val x) : 0 ≤ stX bar x ∧ stX bar x ≤ 465817912560000 ∧ markStep bar x.f1.f0 x.f1.f1 = stX bar x ∧ 0 ≤ 2329089562800 / x.f1.f1 ∧ 2329089562800 / x.f1.f1 ≤ 2329089562800 ∧ wrap64 (Int.tdiv 2329089562800 x.f1.f1) = 2329089562800 / x.f1.f1 ∧ wrap64 (2 * bar) = 2 * bar := by
 obtain ⟨h1, h2, h3, h4, h5⟩ := h
 have d0 : 0 ≤ (2329089562800 : Int) / x.f1.f1 := Int.ediv_nonneg (by omega) (by omega)
 have d1 : (2329089562800 : Int) / x.f1.f1 ≤ 2329089562800 := Int.ediv_le_self _ (by omega)
 have d2 := Int.ediv_mul_le (2329089562800 : Int) (by omega : x.f1.f1 ≠ 0)
 have e1 : x.f1.f0 * (2329089562800 / x.f1.f1) ≤ 2329089562800 := by
  have := Int.mul_le_mul_of_nonneg_right h4 d0
  rw [Int.mul_comm x.f1.f1] at this
  omega
 have e0 : 0 ≤ x.f1.f0 * (2329089562800 / x.f1.f1) := Int.mul_nonneg (by omega) d0
 have a := mul_bd (a := 2 * bar) (b := x.f1.f0 * (2329089562800 / x.f1.f1)) (A := 200) (B := 2329089562800) (by omega) (by omega) e0 e1
 have asq : 2 * bar * (x.f1.f0 * (2329089562800 / x.f1.f1)) = stX bar x := by unfold stX; rw [Int.mul_assoc (2 * bar)]
 rw [asq] at a
 have w0 : wrap64 (2 * bar) = 2 * bar := wrap_id (by omega) (by omega)
 have c := mul_bd (a := 2 * bar) (b := x.f1.f0) (A := 200) (B := 30) (by omega) (by omega) (by omega) (by omega)
 have w1 : wrap64 (2 * bar * x.f1.f0) = 2 * bar * x.f1.f0 := wrap_id (by have := c.1; omega) (by have := c.2; omega)
 have w2 : wrap64 (Int.tdiv 2329089562800 x.f1.f1) = 2329089562800 / x.f1.f1 := by
  rw [Int.tdiv_eq_ediv_of_nonneg (by omega), wrap_id (by omega) (by omega)]
 refine ⟨a.1, by have := a.2; omega, ?_, d0, d1, w2, w0⟩
 unfold markStep
 rw [w0, w1, w2]
 exact wrap_id (by have := a.1; unfold stX at this; omega) (by have := a.2; unfold stX at this; omega)
theorem run_bd {st : Int} (h0 : 0 ≤ st) (h1 : st ≤ 465817912560000) : ∀ (n : Nat) (a : Int), 0 ≤ a → a + (n : Int) * 465817912560000 ≤ 9223372036854775807 →
  (∀ x ∈ markRun st n a, 0 ≤ x ∧ x ≤ 9223372036854775807) ∧ markEnd st n a = a + (n : Int) * st ∧ (a :: markRun st n a).getLast? = some (markEnd st n a) := by
 intro n
 induction n with
 | zero => intro a ha hb; exact ⟨fun x hx => by simp [markRun] at hx, by simp [markEnd], rfl⟩
 | succ n ih =>
  intro a ha hb
  have w : wrap64 (a + st) = a + st := wrap_id (by omega) (by omega)
  obtain ⟨i1, i2, i3⟩ := ih (a + st) (by omega) (by omega)
  simp only [markRun, markEnd, w]
  refine ⟨fun x hx => ?_, ?_, ?_⟩
  ·rcases List.mem_cons.1 hx with rfl | hx
   ·exact ⟨by omega, by omega⟩
   ·exact i1 x hx
  ·rw [i2, Int.natCast_succ, Int.add_mul, Int.one_mul]; omega
  ·rw [List.getLast?_cons_cons]; exact i3
theorem last_app {P F : List Int} {e : Int} (h : P.getLast? = some e) : (P ++ F).getLast? = (e :: F).getLast? := by
 obtain ⟨Q, rfl⟩ := List.getLast?_eq_some_iff.1 h
 rw [List.append_assoc]
 simp [List.getLast?_append, List.getLast?_cons]
def totX (bar : Int) : List S112 → Int
 | [] => 0
 | x :: l => x.f0 * stX bar x + totX bar l
theorem from_bd {bar : Int} (hb1 : 1 ≤ bar) (hb2 : bar ≤ 100) : ∀ (l : List S112) (a : Int), (∀ x ∈ l, Val x) → 0 ≤ a → a + (l.length : Int) * 139745373768000000 ≤ 9223372036854775807 →
  (∀ x ∈ markFrom bar (l.map cSec) a, 0 ≤ x ∧ x ≤ 9223372036854775807) ∧ (a :: markFrom bar (l.map cSec) a).getLast? = some (a + totX bar l) ∧ (markFrom bar (l.map cSec) a).length ≤ 300 * l.length ∧ 0 ≤ totX bar l ∧ totX bar l ≤ (l.length : Int) * 139745373768000000 := by
 intro l
 induction l with
 | nil => intro a _ _ _; refine ⟨fun x hx => by simp [markFrom] at hx, by simp [markFrom, totX], by simp [markFrom], by simp [totX], by simp [totX]⟩
 | cons s t ih =>
  intro a hv ha hb
  have vs := hv s (List.mem_cons_self ..)
  obtain ⟨s1, s2, s3, _⟩ := st_bd hb1 hb2 vs
  have hb' : a + ((t.length : Int) + 1) * 139745373768000000 ≤ 9223372036854775807 := by
   have : ((s :: t).length : Int) = (t.length : Int) + 1 := by simp
   rw [this] at hb; exact hb
  obtain ⟨v1, v2, _⟩ := vs
  have hn : ((s.f0.toNat : Nat) : Int) = s.f0 := by omega
  have m := mul_bd (a := s.f0) (b := stX bar s) (A := 300) (B := 465817912560000) (by omega) v2 s1 s2
  obtain ⟨r1, r2, r3⟩ := run_bd s1 s2 s.f0.toNat a ha (by omega)
  rw [hn] at r2
  obtain ⟨i1, i2, i3, i4, i5⟩ := ih (a + s.f0 * stX bar s) (fun x hx => hv x (List.mem_cons_of_mem _ hx)) (by have := m.1; omega) (by have := m.2; omega)
  have e : markFrom bar ((s :: t).map cSec) a = markRun (stX bar s) s.f0.toNat a ++ markFrom bar (t.map cSec) (a + s.f0 * stX bar s) := by
   rw [List.map_cons]
   show markRun (markStep bar s.f1.f0 s.f1.f1) s.f0.toNat a ++ markFrom bar (t.map cSec) (markEnd (markStep bar s.f1.f0 s.f1.f1) s.f0.toNat a) = _
   rw [s3, r2]
  have hrl : ∀ (n : Nat) (b : Int), (markRun (stX bar s) n b).length = n := by
   intro n
   induction n with
   | zero => intro b; rfl
   | succ n ihn => intro b; simp only [markRun, List.length_cons, ihn]
  rw [e]
  refine ⟨fun x hx => ?_, ?_, ?_, ?_, ?_⟩
  ·rcases List.mem_append.1 hx with hx | hx
   ·exact r1 x hx
   ·exact i1 x hx
  ·rw [← List.cons_append, last_app r3, r2, i2]
   simp only [totX]
   congr 1; omega
  ·rw [List.length_append, hrl, List.length_cons]; omega
  ·simp only [totX]; have := m.1; omega
  ·simp only [totX, List.length_cons]; have := m.2; push_cast; omega
def placeE (x : Int) : Int := if (lowI x 2329089562800).1 > 999999999 then 4 else if (lowI x 2329089562800).2 > 999999999 then 4 else 0
theorem large_eq (a b : Int) : hang_large.f a b = some (if a > 999999999 then 4 else if b > 999999999 then 4 else 0) := by
 unfold hang_large.f
 by_cases h : a > 999999999
 ·rw [if_pos h, if_pos h, hang_when_eq]; rfl
 ·rw [if_neg h, if_neg h, hang_when_eq]
  unfold whenE
  simp only [Option.bind_some, decide_eq_true_eq]
theorem place_ev {x : Int} (h0 : 0 ≤ x) (h1 : x ≤ 9223372036854775807) : Ev (fun k => hang_place.f k x) (⟨(lowI x 2329089562800).1, (lowI x 2329089562800).2⟩, placeE x) := by
 unfold hang_place.f
 exact (hang_ratio_ev x _ h0 (by omega) h1 (by omega)).bind (Ev.eqb (large_eq ..) (Ev.some rfl))
def plS (x : Int) : S23 := ⟨(lowI x 2329089562800).1, (lowI x 2329089562800).2⟩
theorem places_ev : ∀ (xs : List Int), (∀ x ∈ xs, 0 ≤ x ∧ x ≤ 9223372036854775807) → Ev (fun k => placesAll k xs) (xs.map fun x => (plS x, placeE x)) := by
 intro xs
 induction xs with
 | nil => intro _; exact Ev.now _
 | cons y t ih =>
  intro h
  have hy := h y (List.mem_cons_self ..)
  exact (place_ev hy.1 hy.2).bind ((ih (fun x hx => h x (List.mem_cons_of_mem _ hx))).bind (Ev.some rfl))
def marksR (xs : List Int) : List S23 × Int := if firstE (xs.map placeE) = 0 then (xs.map plS, 0) else ([], firstE (xs.map placeE))
theorem firstErr_eq : ∀ xs : List Int, firstErr (xs.map fun x => (plS x, placeE x)) = firstE (xs.map placeE) := by
 intro xs
 induction xs with
 | nil => rfl
 | cons y t ih => simp only [List.map_cons, firstErr, firstE, ih]
theorem markOk_of {l : List S112} (hl : l.length ≤ 33) (hv : ∀ x ∈ l, Val x) : markOk (l.map cSec) = true := by
 unfold markOk
 simp only [Bool.and_eq_true, List.all_eq_true, bne_iff_ne, decide_eq_true_eq, List.length_map]
 refine ⟨fun s hs => ?_, by omega⟩
 obtain ⟨x, hx, rfl⟩ := List.mem_map.1 hs
 obtain ⟨v1, v2, v3, v4, v5⟩ := hv x hx
 show x.f1.f1 ≠ 0 ∧ x.f0 ≤ 4611686018427387904
 omega
def ropeE (l : List S112) (bar : Int) : Int := firstE [secsE l, rangeE bar 1 100]
theorem ropeE_ok {l : List S112} {bar : Int} (h : ropeE l bar = 0) : 1 ≤ l.length ∧ l.length ≤ 32 ∧ (∀ x ∈ l, Val x) ∧ 1 ≤ bar ∧ bar ≤ 100 := by
 obtain ⟨h1, h2⟩ := firstE_ok2 h
 have a := secsE_ok h1
 have b := rangeE_ok h2
 exact ⟨a.1, a.2.1, a.2.2, b.1, b.2⟩
def allX (l : List S112) (bar : Int) : List Int := markAll bar (l.map cSec)
theorem allX_bd {l : List S112} {bar : Int} (h : ropeE l bar = 0) : (∀ x ∈ allX l bar, 0 ≤ x ∧ x ≤ 9223372036854775807) ∧ (allX l bar).getLast? = some (totX bar l) ∧ (allX l bar).length ≤ 9601 ∧ 0 ≤ totX bar l ∧ totX bar l ≤ 9223372036854775807 := by
 obtain ⟨h1, h2, h3, h4, h5⟩ := ropeE_ok h
 obtain ⟨a, b, c, d, e⟩ := from_bd h4 h5 l 0 h3 (by omega) (by omega)
 unfold allX markAll
 refine ⟨fun x hx => ?_, by simpa using b, by simp only [List.length_cons]; omega, d, by omega⟩
 rcases List.mem_cons.1 hx with rfl | hx
 ·omega
 ·exact a x hx
theorem hang_Marks_ev (l : List S112) (bar : Int) (hl : l.length ≤ 33) : Ev (fun k => hang_Marks.f k (l.map cSec) bar) (if ropeE l bar = 0 then marksR (allX l bar) else ([], ropeE l bar)) := by
 unfold hang_Marks.f
 refine (hang_checkSections_ev l hl).bind (Ev.eqb (checkBar_eq ..) ((hang_first_ev _ (by simp)).bind ?_))
 have q : firstE [secsE l, rangeE bar 1 100] = ropeE l bar := rfl
 rw [q]
 by_cases h : ropeE l bar = 0
 ·refine Ev.pos h ?_
  rw [if_pos h]
  obtain ⟨a, b, c, d, e⟩ := allX_bd h
  obtain ⟨h1, h2, h3, h4, h5⟩ := ropeE_ok h
  unfold hang_places.f
  refine Ev.pos (markOk_of hl h3) (Ev.pos (show (allX l bar).length < 1000000000000 by omega) ((places_ev (allX l bar) a).bind (Ev.some ?_)))
  rw [firstErr_eq]
  unfold marksR
  by_cases g : firstE ((allX l bar).map placeE) = 0
  ·rw [if_pos g, if_pos g]; simp [List.map_map, Function.comp_def]
  ·rw [if_neg g, if_neg g]
 ·refine Ev.neg h ?_
  rw [if_neg h]; exact Ev.now _
def ropeR (l : List S112) (bar : Int) : Int × Int × Int := if placeE (totX bar l) = 0 then ((lowI (totX bar l) 2329089562800).1, (lowI (totX bar l) 2329089562800).2, 0) else (0, 0, 4)
theorem placeE_val (x : Int) : placeE x = 0 ∨ placeE x = 4 := by
 unfold placeE; (repeat' split) <;> simp
theorem hang_Rope_ev (l : List S112) (bar : Int) (hl : l.length ≤ 33) : Ev (fun k => hang_Rope.f k (l.map cSec) bar) (if ropeE l bar = 0 then ropeR l bar else (0, 0, ropeE l bar)) := by
 unfold hang_Rope.f
 refine (hang_checkSections_ev l hl).bind (Ev.eqb (checkBar_eq ..) ((hang_first_ev _ (by simp)).bind ?_))
 have q : firstE [secsE l, rangeE bar 1 100] = ropeE l bar := rfl
 rw [q]
 by_cases h : ropeE l bar = 0
 ·refine Ev.pos h ?_
  rw [if_pos h]
  obtain ⟨a, b, c, d, e⟩ := allX_bd h
  obtain ⟨h1, h2, h3, h4, h5⟩ := ropeE_ok h
  refine Ev.eqb (a := totX bar l) ?_ ((hang_ratio_ev _ _ d (by omega) e (by omega)).bind (Ev.eqb (large_eq ..) ?_))
  ·unfold hang_lastMark.f
   rw [if_pos (markOk_of hl h3)]
   have : (markAll bar (l.map cSec)).getLast? = some (totX bar l) := b
   rw [this]; rfl
  ·unfold ropeR
   rcases placeE_val (totX bar l) with g | g
   ·rw [if_pos g]
    have g' : (if (lowI (totX bar l) 2329089562800).1 > 999999999 then (4 : Int) else if (lowI (totX bar l) 2329089562800).2 > 999999999 then 4 else 0) = 0 := g
    rw [g']
    exact Ev.pos rfl (Ev.some rfl)
   ·rw [if_neg (show ¬ placeE (totX bar l) = 0 by omega)]
    have g' : (if (lowI (totX bar l) 2329089562800).1 > 999999999 then (4 : Int) else if (lowI (totX bar l) 2329089562800).2 > 999999999 then 4 else 0) = 4 := g
    rw [g']
    exact Ev.neg (by decide) (Ev.some rfl)
 ·refine Ev.neg h ?_
  rw [if_neg h]; exact Ev.now _
theorem totX_app (bar : Int) : ∀ (a b : List S112), totX bar (a ++ b) = totX bar a + totX bar b := by
 intro a
 induction a with
 | nil => intro b; simp [totX]
 | cons x t ih => intro b; simp only [List.cons_append, totX, ih]; omega
theorem ref_Rope_loop {l : List S112} {bar : Int} (h : ropeE l bar = 0) : ∀ (d i : Nat), i + d = l.length → Ev (fun k => cr6_Rope.l0 k l bar (totX bar (l.take i)) (i : Int)) (ropeR l bar) := by
 obtain ⟨h1, h2, h3, h4, h5⟩ := ropeE_ok h
 obtain ⟨_, _, _, t1, t2⟩ := allX_bd h
 intro d
 induction d with
 | zero =>
  intro i hi
  have e : l.take i = l := List.take_of_length_le (by omega)
  rw [e]
  refine Ev.step (fun _ => rfl) (Ev.neg (by omega) ((ref_ratio_ev _ _ t1 (by omega) t2 (by omega)).bind ?_))
  unfold ropeR placeE
  by_cases g1 : (lowI (totX bar l) 2329089562800).1 > 999999999
  ·refine Ev.pos g1 ?_
   rw [if_pos g1]; exact Ev.some rfl
  ·refine Ev.neg g1 ?_
   rw [if_neg g1]
   by_cases g2 : (lowI (totX bar l) 2329089562800).2 > 999999999
   ·refine Ev.pos g2 ?_
    rw [if_pos g2]; exact Ev.some rfl
   ·refine Ev.neg g2 ?_
    rw [if_neg g2]; exact Ev.some rfl
 | succ d ih =>
  intro i hi
  have hil : i < l.length := by omega
  have v := h3 _ (List.getElem_mem hil)
  obtain ⟨s1, s2, s3, s4, s5, s6, s7⟩ := st_bd h4 h5 v
  have v' := v
  obtain ⟨v1, v2, v3, v4, v5⟩ := v'
  have tk : l.take (i + 1) = l.take i ++ [l[i]] := List.take_succ_eq_append_getElem hil
  have vt : ∀ x ∈ l.take i, Val x := fun x hx => h3 x (List.mem_of_mem_take hx)
  have ti := (from_bd h4 h5 (l.take i) 0 vt (by omega) (by simp only [List.length_take]; omega)).2.2.2
  have hti : ((l.take i).length : Int) ≤ 32 := by simp only [List.length_take]; omega
  refine Ev.step (fun _ => rfl) (Ev.pos (by omega) (Ev.pos (by omega) ?_))
  rw [rd112 hil]
  refine Ev.neg (by omega) ?_
  have c1 := mul_bd (a := 2 * bar) (b := l[i].f0) (A := 200) (B := 300) (by omega) (by omega) (by omega) v2
  have w1 : wrap64 (2 * bar * l[i].f0) = 2 * bar * l[i].f0 := wrap_id (by have := c1.1; omega) (by have := c1.2; omega)
  have c2 := mul_bd (a := 2 * bar * l[i].f0) (b := l[i].f1.f0) (A := 60000) (B := 30) c1.1 c1.2 (by omega) (by omega)
  have w2 : wrap64 (2 * bar * l[i].f0 * l[i].f1.f0) = 2 * bar * l[i].f0 * l[i].f1.f0 := wrap_id (by have := c2.1; omega) (by have := c2.2; omega)
  have asq : 2 * bar * l[i].f0 * l[i].f1.f0 * (2329089562800 / l[i].f1.f1) = l[i].f0 * stX bar l[i] := by
   unfold stX
   rw [Int.mul_right_comm (2 * bar) l[i].f0 l[i].f1.f0, Int.mul_right_comm (2 * bar * l[i].f1.f0) l[i].f0, Int.mul_comm]
  have m := mul_bd (a := l[i].f0) (b := stX bar l[i]) (A := 300) (B := 465817912560000) (by omega) v2 s1 s2
  rw [s7, w1, w2, s6, asq, wrap_id (x := l[i].f0 * stX bar l[i]) (by have := m.1; omega) (by have := m.2; omega), wrap_id (x := totX bar (l.take i) + l[i].f0 * stX bar l[i]) (by have := m.1; omega) (by have := m.2; omega), wrap_id (x := (i : Int) + 1) (by omega) (by omega)]
  have e : totX bar (l.take i) + l[i].f0 * stX bar l[i] = totX bar (l.take (i + 1)) := by
   rw [tk, totX_app]; simp [totX]
  rw [e]
  exact ih (i + 1) (by omega)
theorem ref_Rope_ev {l : List S112} {bar : Int} (h : ropeE l bar = 0) : Ev (fun k => cr6_Rope.f k l bar) (ropeR l bar) := ref_Rope_loop h l.length 0 (by omega)
def restR (acc : List S23) (xs : List Int) : List S23 × Int := if firstE (xs.map placeE) = 0 then (acc ++ xs.map plS, 0) else ([], 4)
theorem firstE_four0 : ∀ xs : List Int, firstE (xs.map placeE) = 0 ∨ firstE (xs.map placeE) = 4 := by
 intro xs
 induction xs with
 | nil => exact Or.inl rfl
 | cons y t ih =>
  simp only [List.map_cons, firstE]
  rcases placeE_val y with h | h
  ·rw [if_pos h]; exact ih
  ·rw [if_neg (by omega)]; exact Or.inr h
theorem restR_cons (acc : List S23) (x : Int) (xs : List Int) (h : placeE x = 0) : restR acc (x :: xs) = restR (acc ++ [plS x]) xs := by
 unfold restR
 simp only [List.map_cons, firstE, if_pos h]
 split <;> simp
theorem restR_bad (acc : List S23) (x : Int) (xs : List Int) (h : placeE x = 4) : restR acc (x :: xs) = ([], 4) := by
 unfold restR
 simp only [List.map_cons, firstE]
 rw [h]
 rfl
section
variable {l : List S112} {bar : Int} (h : ropeE l bar = 0)
include h
theorem ref_Marks_loop : ∀ (d i : Nat), i + d = l.length → ∀ (acc : List S23) (a : Int), 0 ≤ a → a + (d : Int) * 139745373768000000 ≤ 9223372036854775807 → acc.length + 300 * d ≤ 100000 →
  Ev (fun k => cr6_Marks.l0 k l bar acc a (i : Int)) (restR acc (markFrom bar ((l.drop i).map cSec) a)) := by
 obtain ⟨h1, h2, h3, h4, h5⟩ := ropeE_ok h
 intro d
 induction d with
 | zero =>
  intro i hi acc a ha hb hc
  rw [List.drop_eq_nil_of_le (by omega)]
  refine Ev.step (fun _ => rfl) (Ev.neg (by omega) (Ev.some ?_))
  simp [restR, markFrom, firstE]
 | succ d ih =>
  intro i hi acc a ha hb hc
  have hil : i < l.length := by omega
  have v := h3 _ (List.getElem_mem hil)
  obtain ⟨s1, s2, s3, s4, s5, s6, s7⟩ := st_bd h4 h5 v
  have v' := v
  obtain ⟨v1, v2, v3, v4, v5⟩ := v'
  have e : l.drop i = l[i] :: l.drop (i + 1) := List.drop_eq_getElem_cons hil
  have ef : markFrom bar ((l.drop i).map cSec) a = markRun (stX bar l[i]) l[i].f0.toNat a ++ markFrom bar ((l.drop (i + 1)).map cSec) (markEnd (stX bar l[i]) l[i].f0.toNat a) := by
   rw [e, List.map_cons]
   show markRun (markStep bar l[i].f1.f0 l[i].f1.f1) l[i].f0.toNat a ++ markFrom bar ((l.drop (i + 1)).map cSec) (markEnd (markStep bar l[i].f1.f0 l[i].f1.f1) l[i].f0.toNat a) = _
   rw [s3]
  rw [ef]
  refine Ev.step (fun _ => rfl) (Ev.pos (by omega) ?_)
  have inner : ∀ (n j : Nat), (j : Int) + n = l[i].f0 → ∀ (acc : List S23) (a : Int), 0 ≤ a → a + (n : Int) * 465817912560000 + (d : Int) * 139745373768000000 ≤ 9223372036854775807 → acc.length + n + 300 * d ≤ 100000 →
    Ev (fun k => cr6_Marks.l1 k l bar acc a (i : Int) (j : Int)) (restR acc (markRun (stX bar l[i]) n a ++ markFrom bar ((l.drop (i + 1)).map cSec) (markEnd (stX bar l[i]) n a))) := by
   intro n
   induction n with
   | zero =>
    intro j hj acc a ha hb hc
    refine Ev.step (fun _ => rfl) (Ev.pos (by omega) (Ev.pos (by omega) ?_))
    rw [rd112 hil, wrap_id (x := (i : Int) + 1) (by omega) (by omega)]
    refine Ev.neg (by omega) ?_
    simp only [markRun, markEnd, List.nil_append]
    exact ih (i + 1) (by omega) acc a ha (by omega) (by omega)
   | succ n ihn =>
    intro j hj acc a ha hb hc
    have hb' : a + ((n : Int) + 1) * 465817912560000 + (d : Int) * 139745373768000000 ≤ 9223372036854775807 := by
     have : ((n + 1 : Nat) : Int) = (n : Int) + 1 := by omega
     rw [this] at hb; exact hb
    refine Ev.step (fun _ => rfl) (Ev.pos (by omega) (Ev.pos (by omega) ?_))
    rw [rd112 hil]
    have em : wrap64 (wrap64 (wrap64 (2 * bar) * l[i].f1.f0) * wrap64 (Int.tdiv 2329089562800 l[i].f1.f1)) = stX bar l[i] := s3
    have w : wrap64 (a + stX bar l[i]) = a + stX bar l[i] := wrap_id (by omega) (by omega)
    rw [em, w, wrap_id (x := (j : Int) + 1) (by omega) (by omega)]
    refine Ev.pos (by omega) (Ev.neg (by omega) ((ref_ratio_ev _ _ (by omega) (by omega) (by omega) (by omega)).bind ?_))
    simp only [markRun, markEnd, w, List.cons_append]
    by_cases g1 : (lowI (a + stX bar l[i]) 2329089562800).1 > 999999999
    ·refine Ev.pos g1 ?_
     rw [restR_bad _ _ _ (by unfold placeE; rw [if_pos g1])]; exact Ev.some rfl
    ·refine Ev.neg g1 ?_
     by_cases g2 : (lowI (a + stX bar l[i]) 2329089562800).2 > 999999999
     ·refine Ev.pos g2 ?_
      rw [restR_bad _ _ _ (by unfold placeE; rw [if_neg g1, if_pos g2])]; exact Ev.some rfl
     ·refine Ev.neg g2 (Ev.pos (by omega) ?_)
      rw [restR_cons _ _ _ (by unfold placeE; rw [if_neg g1, if_neg g2])]
      exact ihn (j + 1) (by omega) _ _ (by omega) (by omega) (by simp; omega)
  have hn : ((l[i].f0.toNat : Nat) : Int) = l[i].f0 := by omega
  have hb' : a + ((d : Int) + 1) * 139745373768000000 ≤ 9223372036854775807 := by
   have : ((d + 1 : Nat) : Int) = (d : Int) + 1 := by omega
   rw [this] at hb; exact hb
  exact inner l[i].f0.toNat 0 (by omega) acc a ha (by omega) (by omega)
theorem ref_Marks_ev : Ev (fun k => cr6_Marks.f k l bar) (marksR (allX l bar)) := by
 obtain ⟨h1, h2, h3, h4, h5⟩ := ropeE_ok h
 have := ref_Marks_loop h l.length 0 (by omega) [⟨0, 1⟩] 0 (by omega) (by omega) (by simp; omega)
 have z : plS 0 = ⟨0, 1⟩ := by
  have g : gcdI 0 2329089562800 = 2329089562800 := by unfold gcdI; simp
  unfold plS lowI; rw [g]; rfl
 have z0 : placeE 0 = 0 := by
  have g : gcdI 0 2329089562800 = 2329089562800 := by unfold gcdI; simp
  unfold placeE lowI; rw [g]; rfl
 have e : restR [⟨0, 1⟩] (markFrom bar ((l.drop 0).map cSec) 0) = marksR (allX l bar) := by
  rw [List.drop_zero]
  unfold restR marksR allX markAll
  simp only [List.map_cons, firstE, if_pos z0]
  split
  ·rw [z]; rfl
  ·rcases firstE_four0 (markFrom bar (l.map cSec) 0) with g | g
   ·contradiction
   ·rw [g]
 rw [e] at this
 exact this
end
theorem same_loop (l : List S23) (hl : l.length ≤ 9223372036854775807) : ∀ (d i : Nat), i + d = l.length → Ev (fun k => cr6_SameRatios.l0 k l l (i : Int)) true := by
 intro d
 induction d with
 | zero => intro i hi; exact Ev.step (fun _ => rfl) (Ev.neg (by omega) (Ev.now _))
 | succ d ih =>
  intro i hi
  refine Ev.step (fun _ => rfl) (Ev.pos (by omega) (Ev.pos (by omega) (Ev.pos (by omega) (Ev.neg (by simp) ?_))))
  rw [wrap_id (x := (i : Int) + 1) (by omega) (by omega)]
  exact ih (i + 1) (by omega)
theorem same_ev (l : List S23) (hl : l.length ≤ 9223372036854775807) : Ev (fun k => cr6_SameRatios.f k l l) true := Ev.pos rfl (same_loop l hl l.length 0 (by omega))
def tieAt (m n i : Int) : Int := (i + 1) * m / n - i * m / n
def mapR (f : Int → Int) (N : Nat) : List Int := (List.range N).map (fun i : Nat => f (i : Int))
theorem mapR_succ (f : Int → Int) (N : Nat) : mapR f (N + 1) = mapR f N ++ [f (N : Int)] := by
 unfold mapR; rw [List.range_succ, List.map_append]; rfl
theorem mapR_len (f : Int → Int) (N : Nat) : (mapR f N).length = N := by unfold mapR; simp
def tieE (m n : Int) : Int := firstE [rangeE m 1 300, rangeE n 1 m]
theorem tie_step {m n i : Int} (h1 : 1 ≤ m) (h2 : m ≤ 300) (h3 : 1 ≤ n) (h4 : n ≤ m) (h5 : 0 ≤ i) (h6 : i < n) :
  wrap64 ((wrap64 (Int.tdiv (wrap64 ((wrap64 (i + 1)) * m)) n)) - (wrap64 (Int.tdiv (wrap64 (i * m)) n))) = tieAt m n i := by
 have a := mul_bd (a := i + 1) (b := m) (A := 300) (B := 300) (by omega) (by omega) (by omega) h2
 have b := mul_bd (a := i) (b := m) (A := 300) (B := 300) h5 (by omega) (by omega) h2
 have e1 : Int.tdiv ((i + 1) * m) n = (i + 1) * m / n := Int.tdiv_eq_ediv_of_nonneg a.1
 have e2 : Int.tdiv (i * m) n = i * m / n := Int.tdiv_eq_ediv_of_nonneg b.1
 have c1 := Int.ediv_nonneg a.1 (by omega : 0 ≤ n)
 have c2 := Int.ediv_nonneg b.1 (by omega : 0 ≤ n)
 have d1 := Int.ediv_le_self n a.1
 have d2 := Int.ediv_le_self n b.1
 have a2 := a.2
 have b2 := b.2
 rw [wrap_id (x := i + 1) (by omega) (by omega), wrap_id (x := (i + 1) * m) (by have := a.1; omega) (by omega), wrap_id (x := i * m) (by have := b.1; omega) (by omega), e1, e2, wrap_id (x := (i + 1) * m / n) (by omega) (by omega), wrap_id (x := i * m / n) (by omega) (by omega), wrap_id (by omega) (by omega)]
 rfl
theorem hang_Ties_loop {m n : Int} (h1 : 1 ≤ m) (h2 : m ≤ 300) (h3 : 1 ≤ n) (h4 : n ≤ m) : ∀ (d i k : Nat), (i : Int) + d = n → d < k → hang_Ties.l0 k m n (mapR (tieAt m n) i) n (i : Int) = some (mapR (tieAt m n) n.toNat, 0) := by
 intro d
 induction d with
 | zero =>
  intro i k hi hk
  obtain ⟨k, rfl⟩ : ∃ q, k = q + 1 := ⟨k - 1, by omega⟩
  simp only [hang_Ties.l0]
  rw [if_neg (by omega)]
  have : i = n.toNat := by omega
  rw [this]
 | succ d ih =>
  intro i k hi hk
  obtain ⟨k, rfl⟩ : ∃ q, k = q + 1 := ⟨k - 1, by omega⟩
  simp only [hang_Ties.l0]
  rw [if_pos (by omega), if_neg (by omega), if_pos (by rw [mapR_len]; omega), tie_step h1 h2 h3 h4 (by omega) (by omega), ← mapR_succ, wrap_id (by omega) (by omega)]
  have e : ((i : Int) + 1) = ((i + 1 : Nat) : Int) := by omega
  rw [e, ih (i + 1) k (by omega) (by omega)]
theorem hang_Ties_ev (m n : Int) : Ev (fun k => hang_Ties.f k m n) (if tieE m n = 0 then (mapR (tieAt m n) n.toNat, 0) else ([], tieE m n)) := by
 unfold hang_Ties.f
 refine Ev.eqb (checkMeshes_eq ..) (Ev.eqb (hang_within_eq ..) ((hang_first_ev _ (by simp)).bind ?_))
 have q : firstE [rangeE m 1 300, rangeE n 1 m] = tieE m n := rfl
 rw [q]
 by_cases h : tieE m n = 0
 ·obtain ⟨a, b⟩ := firstE_ok2 h
  have a := rangeE_ok a
  have b := rangeE_ok b
  refine Ev.pos h ?_
  rw [if_pos h]
  refine ⟨n.toNat + 1, fun k hk => ?_⟩
  exact hang_Ties_loop a.1 a.2 b.1 b.2 n.toNat 0 k (by omega) (by omega)
 ·refine Ev.neg h ?_; rw [if_neg h]; exact Ev.some rfl
end Go.Proofs.YtppighiaffppkaaDoor.H
end
section
namespace Go.Proofs.YtppighiaffppkaaDoor.Pure
open Go.RowKit H R Go.Proofs.YtppighiaffppkaaDoorW.PrintWords Go.Proofs.YtppighiaffppkaaDoorW.PrintLast Go.Proofs.YtppighiaffppkaaDoorW.PrintMore
set_option linter.unusedSimpArgs false
set_option linter.unusedVariables false
theorem beq2p (a b : Int) : (a == a && (b == b)) = true := by simp
theorem ref_Ties_loop {m n : Int} (h1 : 1 ≤ m) (h2 : m ≤ 300) (h3 : 1 ≤ n) (h4 : n ≤ m) : ∀ (d i : Nat), (i : Int) + d = n → Ev (fun k => cr6_Ties.l0 k m n (mapR (tieAt m n) i) (i : Int)) (mapR (tieAt m n) n.toNat) := by
 intro d
 induction d with
 | zero =>
  intro i hi
  have : i = n.toNat := by omega
  rw [this]
  exact Ev.step (fun _ => rfl) (Ev.neg (by omega) (Ev.now _))
 | succ d ih =>
  intro i hi
  refine Ev.step (fun _ => rfl) (Ev.pos (by omega) (Ev.neg (by omega) (Ev.pos (by rw [mapR_len]; omega) ?_)))
  rw [tie_step h1 h2 h3 h4 (by omega) (by omega), ← mapR_succ, wrap_id (x := (i : Int) + 1) (by omega) (by omega)]
  exact ih (i + 1) (by omega)
theorem ref_Ties_ev {m n : Int} (h : tieE m n = 0) : Ev (fun k => cr6_Ties.f k m n) (mapR (tieAt m n) n.toNat) := by
 obtain ⟨a, b⟩ := firstE_ok2 h
 have a := rangeE_ok a
 have b := rangeE_ok b
 exact ref_Ties_loop a.1 a.2 b.1 b.2 n.toNat 0 (by omega)
theorem ints_loop (l : List Int) (hl : l.length ≤ 9223372036854775807) : ∀ (d i : Nat), i + d = l.length → Ev (fun k => cr1_SameInts.l0 k l l (i : Int)) true := by
 intro d
 induction d with
 | zero => intro i hi; exact Ev.step (fun _ => rfl) (Ev.neg (by omega) (Ev.now _))
 | succ d ih =>
  intro i hi
  refine Ev.step (fun _ => rfl) (Ev.pos (by omega) (Ev.pos (by omega) (Ev.pos (by omega) (Ev.pos rfl ?_))))
  rw [wrap_id (x := (i : Int) + 1) (by omega) (by omega)]
  exact ih (i + 1) (by omega)
theorem ints_ev (l : List Int) (hl : l.length ≤ 9223372036854775807) : Ev (fun k => cr1_SameInts.f k l l) true := Ev.pos rfl (ints_loop l hl l.length 0 (by omega))
theorem tail_HangRopes (x8 : Int) (x9 : List S23) (x10 : Int) (tl : List Int) (te x13 x14 m n v0 v1 u0 u1 : Int) (x17 : List S23) (e8 : x8 = x13) (e10 : x10 = x14) (e9 : x9 = x17) (e0 : v0 = u0) (e1 : v1 = u1) (h9 : x9.length ≤ 9223372036854775807)
  (ht : (te, tl) = if tieE m n = 0 then ((0 : Int), mapR (tieAt m n) n.toNat) else (tieE m n, [])) (hn : n ≤ 300 ∨ tieE m n ≠ 0) :
  Ev (fun k => cl6_HangRopes.j1 k x8 x9 x10 tl te x13 x14 (tieE m n) x17 [] m n v0 v1 u0 u1) true := by
 subst e8 e10 e9 e0 e1
 refine Ev.step (fun _ => rfl) ?_
 by_cases h : tieE m n = 0
 ·rw [if_pos h] at ht
  simp only [Prod.mk.injEq] at ht
  obtain ⟨rfl, rfl⟩ := ht
  refine Ev.pos h ((ref_Ties_ev h).bind (Ev.pos (beq2p _ _) (Ev.pos rfl ((same_ev _ h9).bind (Ev.pos rfl (Ev.pos rfl ((ints_ev _ (by rw [mapR_len]; omega)).bind (Ev.pos rfl (Ev.pos h.symm (Ev.now true))))))))))
 ·rw [if_neg h] at ht
  simp only [Prod.mk.injEq] at ht
  obtain ⟨rfl, rfl⟩ := ht
  exact Ev.neg h (Ev.pos (beq2p _ _) (Ev.pos rfl ((same_ev _ h9).bind (Ev.pos rfl (Ev.pos rfl ((ints_ev _ (by simp)).bind (Ev.pos rfl (Ev.pos rfl (Ev.now true)))))))))
theorem marksR_len (xs : List Int) : (marksR xs).1.length ≤ xs.length := by
 unfold marksR; split <;> simp
theorem pure_HangRopes (l : List S112) (bar m n : Int) (hc : l.length ≤ maxLen) (hs : ∀ x ∈ l, okI x.f0 ∧ okI x.f1.f0 ∧ okI x.f1.f1) (_ : okI bar) (_ : okI m) (_ : okI n) : ∃ k, cl6_HangRopes.f k l bar m n = some true := by
 refine Ev.rounds (g := fun k => cl6_HangRopes.f k l bar m n) ?_
 unfold cl6_HangRopes.f
 obtain ⟨b, hb, hb'⟩ := ShortSections_ev l (by unfold maxLen at hc; omega)
 refine hb.bind ?_
 cases b with
 | false => exact Ev.neg (by decide) (Ev.now true)
 | true =>
  have hl := hb' rfl
  refine Ev.pos rfl ((sections_ev l hl).bind ((hang_Rope_ev l bar hl).bind ((sections_ev l hl).bind ((hang_Marks_ev l bar hl).bind ((hang_Ties_ev m n).bind ((ref_CheckSections_ev l hl).bind (Ev.eqb (ref_CheckRange_eq ..) ((ref_First_ev _ (by simp)).bind (Ev.eqb (ref_CheckRange_eq ..) ?_)))))))))
  have q : firstE [secsE l, rangeE bar 1 100] = ropeE l bar := rfl
  rw [q]
  have mid : Ev (fun k => cl6_HangRopes.j0 k l bar (if ropeE l bar = 0 then ropeR l bar else (0, 0, ropeE l bar)).2.2 (if ropeE l bar = 0 then marksR (allX l bar) else ([], ropeE l bar)).1 (if ropeE l bar = 0 then marksR (allX l bar) else ([], ropeE l bar)).2 (if tieE m n = 0 then (mapR (tieAt m n) n.toNat, 0) else ([], tieE m n)).1 (if tieE m n = 0 then (mapR (tieAt m n) n.toNat, 0) else ([], tieE m n)).2 (ropeE l bar) (ropeE l bar) (tieE m n) m n (if ropeE l bar = 0 then ropeR l bar else (0, 0, ropeE l bar)).1 (if ropeE l bar = 0 then ropeR l bar else (0, 0, ropeE l bar)).2.1) true := by
   have ht : ((if tieE m n = 0 then (mapR (tieAt m n) n.toNat, 0) else ([], tieE m n)).2, (if tieE m n = 0 then (mapR (tieAt m n) n.toNat, 0) else ([], tieE m n)).1) = if tieE m n = 0 then ((0 : Int), mapR (tieAt m n) n.toNat) else (tieE m n, []) := by
    split <;> rfl
   have hn : n ≤ 300 ∨ tieE m n ≠ 0 := by
    by_cases h : tieE m n = 0
    ·obtain ⟨a, c⟩ := firstE_ok2 h
     have a := rangeE_ok a
     have c := rangeE_ok c
     exact Or.inl (by omega)
    ·exact Or.inr h
   refine Ev.step (fun _ => rfl) ?_
   by_cases h : ropeE l bar = 0
   ·have lb := (allX_bd h).2.2.1
    have lb2 := marksR_len (allX l bar)
    refine Ev.pos h ((ref_Rope_ev h).bind ((ref_Marks_ev h).bind ?_))
    simp only [if_pos h]
    exact tail_HangRopes _ _ _ _ _ _ _ _ _ _ _ _ _ _ rfl rfl rfl rfl rfl (by omega) ht hn
   ·refine Ev.neg h ?_
    simp only [if_neg h]
    exact tail_HangRopes _ _ _ _ _ _ _ _ _ _ _ _ _ _ rfl rfl rfl rfl rfl (by simp) ht hn
  have te : tieE m n = if rangeE m 1 300 = 0 then rangeE n 1 m else rangeE m 1 300 := firstE_two _ _
  by_cases h : rangeE m 1 300 = 0
  ·refine Ev.pos h (Ev.eqb (ref_CheckRange_eq ..) ?_)
   rw [if_pos h] at te
   rw [← te]; exact mid
  ·refine Ev.neg h ?_
   rw [if_neg h] at te
   rw [← te]; exact mid
end Go.Proofs.YtppighiaffppkaaDoor.Pure
end
section
namespace Go.Proofs.YtppighiaffppkaaDoor.hangRopes
open Go.ChangeShapes Go.WideShapes Go.ChangeAt Go.RowKit Go.Proofs.YtppighiaffppkaaDoor.R
set_option linter.unusedVariables false
set_option maxRecDepth 100000 in
theorem lifted (os : Os) (started : os.Started) (Hd : Type) (enc : TypeId × Value → Hd) :
  ReturnsInHanded {} Tryd.checked os 6 .any (fun w args => (Rows.hangRopesSpec.pre enc Tryd.prog Tryd.f6 [] false w args ∧ laidMetH Tryd.prog laid w) ∧ sizedMet enc Tryd.prog Tryd.f6 (OpenSpec.ofChange Rows.hangRopesSpec) false w args)
   (Rows.hangRopesSpec.post enc Tryd.prog Tryd.f6 false true false false) := by
 refine returnsInHanded_of_change_and (C := Tryd.checked) (X := fun w _ => laidMetH Tryd.prog laid w) (fun _ _ _ hh h => h.of_heap hh) own started (by kernel_rfl) Tryd.func6
  (ChangeSpec.witness_shaped (enc := enc) (C := Tryd.checked) (os := os) (X := fun w _ => laidMetH Tryd.prog laid w) false (World.doorLaid Tryd.prog 400 os) #[.slice none 0 0, .int .i64 0, .agg #[.int .i64 0, .int .i64 0]] 8 rfl (World.shaped_of_RefB (by kernel_rfl) (by kernel_rfl)) (by kernel_rfl) (by kernel_rfl) (by kernel_rfl) (door_met os _)) ?_
 intro W base args ds gs before hval0 hW hcnd hsz0 hL _
 have hval : ∀ (j : Nat) t v, Tryd.f6.params[j]? = some t → args[j]? = some v → Value.okWide Tryd.prog W .any base t v := hval0
 have hW' := hW
 obtain ⟨p, q, hA0, hV, rfl, hfz, hnd⟩ := hW
 have hA : DataW.TrodAll enc Tryd.prog W 0 (fun _ => true) true Tryd.f6.params.toList args.toList ds p := hA0
 rw [Tryd.params6] at hA hval
 obtain ⟨v0, vs0, d0, ds0, p0, q0, hargs, rfl, rfl, h0, r0⟩ := trodAll_cons hA
 obtain ⟨v1, vs1, d1, ds1, p1, q1, rfl, rfl, rfl, h1, r1⟩ := trodAll_cons r0
 obtain ⟨v2, vs2, d2, ds2, p2, q2, rfl, rfl, rfl, h2, r2⟩ := trodAll_cons r1
 obtain ⟨rfl, rfl, rfl⟩ := trodAll_nil r2
 obtain rfl : args = #[v0, v1, v2] := by cases args; simp_all
 obtain ⟨rfl, rfl⟩ := trodVars_none hV
 have k0 := h0
 have lt0 : ∀ x ∈ p0, x.block < W.heap.size := by obtain ⟨m, hm⟩ := k0; exact DataW.trod_lt m _ _ _ hm
 obtain ⟨A0, c0, l0, rfl, cl0, cm0, K0, w0⟩ := arg60 (hval 0 60 v0 rfl rfl) h0
 have k1 := h1
 have lt1 : ∀ x ∈ p1, x.block < W.heap.size := by obtain ⟨m, hm⟩ := k1; exact DataW.trod_lt m _ _ _ hm
 obtain ⟨a1, rfl, w1⟩ : ∃ a : Int, v1 = .int .i64 a ∧ okI a := by
  obtain ⟨a, rfl, _, _, _⟩ := open_int Tryd.underlying3 (hval 1 3 v1 rfl rfl) h1
  obtain ⟨fuel, hf⟩ := h1
  obtain ⟨b, e, w⟩ := cs3 (cs := [.int .i64 a]) hf
  cases e; exact ⟨a, rfl, w⟩
 have k2 := h2
 have lt2 : ∀ x ∈ p2, x.block < W.heap.size := by obtain ⟨m, hm⟩ := k2; exact DataW.trod_lt m _ _ _ hm
 obtain ⟨a2_0, a2_1, rfl, w2_0, w2_1⟩ := arg51 (hval 2 51 v2 rfl rfl) h2
 have hG : H.GH W := gh_of_laid hL
 clear hA0 hval0 hsz0 hL hcnd
 obtain ⟨k, hk⟩ := Pure.pure_HangRopes l0 a1 a2_0 a2_1 (Nat.le_trans cl0 cm0) w0 w1 w2_0 w2_1
 refine (H.cl6_HangRopes.calls k A0 c0 l0 a1 a2_0 a2_1 true W hG K0 cl0 hk).mono fun e W' ⟨he, bel⟩ => ?_
 subst he
 exact ⟨_, rfl, _, _, _, [], _, [], hW', trodAll_mk1 (shut_bool Tryd.underlying4 _), (trodAll_cons_mk (Below.trod laidOut (by kernel_rfl) (of_decide_eq_true (by kernel_rfl)) k0 bel lt0) (trodAll_cons_mk (Below.trod laidOut (by kernel_rfl) (of_decide_eq_true (by kernel_rfl)) k1 bel lt1) (trodAll_cons_mk (Below.trod laidOut (by kernel_rfl) (of_decide_eq_true (by kernel_rfl)) k2 bel lt2) trodAll_mk0))), rfl, bel.frame _, fun h => by cases h⟩
theorem over : Rows.hangRopesRow.holds Tryd.pinned (OpenSpec.ofChange Rows.hangRopesSpec) :=
 OpenClaim.holds_of_wide 6 Tryd.f6 rfl rfl rfl rfl rfl rfl rfl ⟨rfl, rfl, rfl, rfl, rfl⟩ rfl rfl rfl rfl rfl (by kernel_rfl) Tryd.func6 (by kernel_rfl)
  (of_decide_eq_true (by kernel_rfl)) (by unfold Func.isWrapper; first | (rw [if_pos (by decide +kernel)]; kernel_rfl) | (rw [if_neg (by decide +kernel)]; exact ⟨rfl, rfl⟩))
  (fun os started Hd enc _ => lifted os started Hd enc)
theorem fits : ∀ t : TypeId, t ∈ Tryd.f6.params → Tryd.prog.wantsStandIn t = false := by
 rw [Tryd.params6]
 intro t ht
 simp only [List.mem_toArray, List.mem_cons, List.not_mem_nil, or_false] at ht
 rcases ht with rfl | rfl | rfl
 ·exact (show Tryd.prog.wantsStandIn 60 = false by kernel_rfl)
 ·exact (show Tryd.prog.wantsStandIn 3 = false by kernel_rfl)
 ·exact (show Tryd.prog.wantsStandIn 51 = false by kernel_rfl)
theorem card : Rows.HangRopesCardSaid :=
 Claim7.holds_tied_plain_at .later [] [.data] true (true, "bb9c8a1f3b87a99a73053614bf73ec5a74d01f458fba8a9eee33de806b476934") false
  over (fun _ h => by cases h) (by kernel_rfl) (fun _ h => by cases h) hangRopes_row_tie rfl ⟨rfl, rfl⟩ (by kernel_rfl) rfl
  (fun f fn hf hfn => by
   obtain rfl : f = 6 := Option.some.inj ((show Tryd.prog.funcNamed "codend/codendlaw06.HangRopes" = some 6 by kernel_rfl).symm.trans hf) |>.symm
   obtain rfl : fn = Tryd.f6 := (Option.some.inj (Tryd.func6.symm.trans hfn)).symm
   exact ⟨by kernel_rfl, fun j t ht => fits t (Array.mem_of_getElem? ht)⟩)
  (by kernel_rfl)
#print axioms card
end Go.Proofs.YtppighiaffppkaaDoor.hangRopes
namespace Go.Proofs.YtppighiaffppkaaDoor
theorem hangRopes_holds : Rows.HangRopesCardSaid := hangRopes.card
end Go.Proofs.YtppighiaffppkaaDoor
end
