/- The common part of the claims of this seat: words, the walks of package hang's functions, and that the examples of the document hold (awake), part 8. Condition: the laid table hang.tens, as the card ties it. -/
import Derived.Deep.Slices
import Derived.SizedLaws
import Derived.Test.YtppighiaffppkaaDoorZA7
section
namespace Go.Proofs.YtppighiaffppkaaDoor.R
open Go.ChangeShapes Go.WideShapes Go.ChangeAt Go.WideMaps Go.WideElems Go.RowKit Go.Deep
open Go.Proofs.YtppighiaffppkaaDoorW.PrintWords Go.Proofs.YtppighiaffppkaaDoorW.PrintLast
set_option linter.unusedSimpArgs false
set_option linter.unusedVariables false
set_option maxRecDepth 100000
def okI (a : Int) : Prop := -9223372036854775808 ≤ a ∧ a ≤ 9223372036854775807
def okB (a : Int) : Prop := 0 ≤ a ∧ a ≤ 255
def okS (s : ByteArray) : Prop := s.size ≤ 9223372036854775807
section
variable {H : Type} {enc : TypeId × Value → H} {w : World} {base : Nat} {spare : Nat → Bool} {held : Bool} {fuel : Nat} {cs : List Value} {x : DataW H × List MemPlace}
theorem cs3 (h : DataW.trod enc Tryd.prog w base spare held fuel 3 cs = some x) : ∃ a, cs = [.int .i64 a] ∧ okI a := by
 obtain ⟨a, e, _, hw⟩ := DataW.trod_int Tryd.underlying3 h
 refine ⟨a, e, ?_⟩
 simp [Lit.wf, IntKind.min, IntKind.max, IntKind.signed, IntKind.bits] at hw
 exact ⟨by omega, by omega⟩
theorem cs5 (h : DataW.trod enc Tryd.prog w base spare held fuel 5 cs = some x) : ∃ a, cs = [.int .u8 a] ∧ okB a := by
 obtain ⟨a, e, _, hw⟩ := DataW.trod_int Tryd.underlying5 h
 refine ⟨a, e, ?_⟩
 simp [Lit.wf, IntKind.min, IntKind.max, IntKind.signed, IntKind.bits] at hw
 exact ⟨by omega, by omega⟩
theorem cs9 (h : DataW.trod enc Tryd.prog w base spare held fuel 9 cs = some x) : ∃ s, cs = [.string s] ∧ okS s := by
 obtain ⟨s, e, _, hw⟩ := DataW.trod_string Tryd.underlying9 h
 exact ⟨s, e, by unfold maxLen at hw; unfold okS; omega⟩
theorem size3 : Tryd.prog.cellsOf 3 = 1 := by kernel_rfl
theorem size5 : Tryd.prog.cellsOf 5 = 1 := by kernel_rfl
theorem size9 : Tryd.prog.cellsOf 9 = 1 := by kernel_rfl
theorem size23 : Tryd.prog.cellsOf 23 = 2 := by kernel_rfl
theorem cs23 (h : DataW.trod enc Tryd.prog w base spare held fuel 23 cs = some x) : ∃ (a0 : Int) (a1 : Int), cs = [.int .i64 a0, .int .i64 a1] ∧ okI a0 ∧ okI a1 := by
 obtain ⟨xs, m, _, _, hl, hlen, hf⟩ := DataW.trod_struct Tryd.underlying23 h
 rw [size23] at hl
 match xs, cs, hlen, hl, hf with
 | [x0, x1], [c0, c1], _, _, hf =>
  have h0 : DataW.trod enc Tryd.prog w base spare held m 3 [c0] = some x0 := by
   have := hf 0 _ rfl;simpa [size3] using this
  obtain ⟨a0, e0, q0⟩ := cs3 h0;simp only [List.cons.injEq, and_true] at e0;subst e0;have h1 : DataW.trod enc Tryd.prog w base spare held m 3 [c1] = some x1 := by
   have := hf 1 _ rfl;simpa [size3] using this
  obtain ⟨a1, e1, q1⟩ := cs3 h1;simp only [List.cons.injEq, and_true] at e1;subst e1;exact ⟨a0, a1, rfl, q0, q1⟩
theorem size24 : Tryd.prog.cellsOf 24 = 2 := by kernel_rfl
theorem cs24 (h : DataW.trod enc Tryd.prog w base spare held fuel 24 cs = some x) : ∃ (a0 : Int) (a1 : Int), cs = [.int .i64 a0, .int .i64 a1] ∧ okI a0 ∧ okI a1 := by
 obtain ⟨xs, m, _, _, hl, hlen, hf⟩ := DataW.trod_struct Tryd.underlying24 h
 rw [size24] at hl
 match xs, cs, hlen, hl, hf with
 | [x0, x1], [c0, c1], _, _, hf =>
  have h0 : DataW.trod enc Tryd.prog w base spare held m 3 [c0] = some x0 := by
   have := hf 0 _ rfl;simpa [size3] using this
  obtain ⟨a0, e0, q0⟩ := cs3 h0;simp only [List.cons.injEq, and_true] at e0;subst e0;have h1 : DataW.trod enc Tryd.prog w base spare held m 3 [c1] = some x1 := by
   have := hf 1 _ rfl;simpa [size3] using this
  obtain ⟨a1, e1, q1⟩ := cs3 h1;simp only [List.cons.injEq, and_true] at e1;subst e1;exact ⟨a0, a1, rfl, q0, q1⟩
theorem size37 : Tryd.prog.cellsOf 37 = 5 := by kernel_rfl
theorem cs37 (h : DataW.trod enc Tryd.prog w base spare held fuel 37 cs = some x) : ∃ (a0 : Int) (a1 : Int) (a2 : Int) (a3 : Int) (a4 : Int), cs = [.int .i64 a0, .int .i64 a1, .int .i64 a2, .int .i64 a3, .int .i64 a4] ∧ okI a0 ∧ okI a1 ∧ okI a2 ∧ okI a3 ∧ okI a4 := by
 obtain ⟨xs, m, _, _, hl, hlen, hf⟩ := DataW.trod_struct Tryd.underlying37 h
 rw [size37] at hl
 match xs, cs, hlen, hl, hf with
 | [x0, x1, x2, x3], [c0, c1, c2, c3, c4], _, _, hf =>
  have h0 : DataW.trod enc Tryd.prog w base spare held m 23 [c0, c1] = some x0 := by
   have := hf 0 _ rfl;simpa [size23] using this
  obtain ⟨a0, a1, e0, q0, q1⟩ := cs23 h0;simp only [List.cons.injEq, and_true] at e0;obtain ⟨rfl, rfl⟩ := e0;have h1 : DataW.trod enc Tryd.prog w base spare held m 3 [c2] = some x1 := by
   have := hf 1 _ rfl;simpa [size3] using this
  obtain ⟨a2, e1, q2⟩ := cs3 h1;simp only [List.cons.injEq, and_true] at e1;subst e1;have h2 : DataW.trod enc Tryd.prog w base spare held m 3 [c3] = some x2 := by
   have := hf 2 _ rfl;simpa [size3] using this
  obtain ⟨a3, e2, q3⟩ := cs3 h2;simp only [List.cons.injEq, and_true] at e2;subst e2;have h3 : DataW.trod enc Tryd.prog w base spare held m 3 [c4] = some x3 := by
   have := hf 3 _ rfl;simpa [size3] using this
  obtain ⟨a4, e3, q4⟩ := cs3 h3;simp only [List.cons.injEq, and_true] at e3;subst e3;exact ⟨a0, a1, a2, a3, a4, rfl, q0, q1, q2, q3, q4⟩
theorem size112 : Tryd.prog.cellsOf 112 = 3 := by kernel_rfl
theorem cs112 (h : DataW.trod enc Tryd.prog w base spare held fuel 112 cs = some x) : ∃ (a0 : Int) (a1 : Int) (a2 : Int), cs = [.int .i64 a0, .int .i64 a1, .int .i64 a2] ∧ okI a0 ∧ okI a1 ∧ okI a2 := by
 obtain ⟨xs, m, _, _, hl, hlen, hf⟩ := DataW.trod_struct Tryd.underlying112 h
 rw [size112] at hl
 match xs, cs, hlen, hl, hf with
 | [x0, x1], [c0, c1, c2], _, _, hf =>
  have h0 : DataW.trod enc Tryd.prog w base spare held m 3 [c0] = some x0 := by
   have := hf 0 _ rfl;simpa [size3] using this
  obtain ⟨a0, e0, q0⟩ := cs3 h0;simp only [List.cons.injEq, and_true] at e0;subst e0;have h1 : DataW.trod enc Tryd.prog w base spare held m 23 [c1, c2] = some x1 := by
   have := hf 1 _ rfl;simpa [size23] using this
  obtain ⟨a1, a2, e1, q1, q2⟩ := cs23 h1;simp only [List.cons.injEq, and_true] at e1;obtain ⟨rfl, rfl⟩ := e1;exact ⟨a0, a1, a2, rfl, q0, q1, q2⟩
theorem size121 : Tryd.prog.cellsOf 121 = 3 := by kernel_rfl
theorem cs121 (h : DataW.trod enc Tryd.prog w base spare held fuel 121 cs = some x) : ∃ (a0 : ByteArray) (a1 : Int) (a2 : Int), cs = [.string a0, .int .i64 a1, .int .i64 a2] ∧ okS a0 ∧ okI a1 ∧ okI a2 := by
 obtain ⟨xs, m, _, _, hl, hlen, hf⟩ := DataW.trod_struct Tryd.underlying121 h
 rw [size121] at hl
 match xs, cs, hlen, hl, hf with
 | [x0, x1, x2], [c0, c1, c2], _, _, hf =>
  have h0 : DataW.trod enc Tryd.prog w base spare held m 9 [c0] = some x0 := by
   have := hf 0 _ rfl;simpa [size9] using this
  obtain ⟨a0, e0, q0⟩ := cs9 h0;simp only [List.cons.injEq, and_true] at e0;subst e0;have h1 : DataW.trod enc Tryd.prog w base spare held m 3 [c1] = some x1 := by
   have := hf 1 _ rfl;simpa [size3] using this
  obtain ⟨a1, e1, q1⟩ := cs3 h1;simp only [List.cons.injEq, and_true] at e1;subst e1;have h2 : DataW.trod enc Tryd.prog w base spare held m 3 [c2] = some x2 := by
   have := hf 2 _ rfl;simpa [size3] using this
  obtain ⟨a2, e2, q2⟩ := cs3 h2;simp only [List.cons.injEq, and_true] at e2;subst e2;exact ⟨a0, a1, a2, rfl, q0, q1, q2⟩
theorem size119 : Tryd.prog.cellsOf 119 = 4 := by kernel_rfl
theorem cs119 (h : DataW.trod enc Tryd.prog w base spare held fuel 119 cs = some x) : ∃ (a0 : Int) (a1 : Int) (a2 : Int) (a3 : ByteArray), cs = [.int .i64 a0, .int .i64 a1, .int .i64 a2, .string a3] ∧ okI a0 ∧ okI a1 ∧ okI a2 ∧ okS a3 := by
 obtain ⟨xs, m, _, _, hl, hlen, hf⟩ := DataW.trod_struct Tryd.underlying119 h
 rw [size119] at hl
 match xs, cs, hlen, hl, hf with
 | [x0, x1, x2, x3], [c0, c1, c2, c3], _, _, hf =>
  have h0 : DataW.trod enc Tryd.prog w base spare held m 3 [c0] = some x0 := by
   have := hf 0 _ rfl;simpa [size3] using this
  obtain ⟨a0, e0, q0⟩ := cs3 h0;simp only [List.cons.injEq, and_true] at e0;subst e0;have h1 : DataW.trod enc Tryd.prog w base spare held m 3 [c1] = some x1 := by
   have := hf 1 _ rfl;simpa [size3] using this
  obtain ⟨a1, e1, q1⟩ := cs3 h1;simp only [List.cons.injEq, and_true] at e1;subst e1;have h2 : DataW.trod enc Tryd.prog w base spare held m 3 [c2] = some x2 := by
   have := hf 2 _ rfl;simpa [size3] using this
  obtain ⟨a2, e2, q2⟩ := cs3 h2;simp only [List.cons.injEq, and_true] at e2;subst e2;have h3 : DataW.trod enc Tryd.prog w base spare held m 9 [c3] = some x3 := by
   have := hf 3 _ rfl;simpa [size9] using this
  obtain ⟨a3, e3, q3⟩ := cs9 h3;simp only [List.cons.injEq, and_true] at e3;subst e3;exact ⟨a0, a1, a2, a3, rfl, q0, q1, q2, q3⟩
theorem size51 : Tryd.prog.cellsOf 51 = 2 := by kernel_rfl
theorem cs51 (h : DataW.trod enc Tryd.prog w base spare held fuel 51 cs = some x) : ∃ a0 a1 : Int, cs = [.int .i64 a0, .int .i64 a1] ∧ okI a0 ∧ okI a1 := by
 obtain ⟨xs, m, _, _, hl, hlen, hf⟩ := DataW.trod_array Tryd.underlying51 h
 rw [size51] at hl
 match xs, cs, hlen, hl, hf with
 | [x0, x1], [c0, c1], _, _, hf =>
  have h0 : DataW.trod enc Tryd.prog w base spare held m 3 [c0] = some x0 := by
   have := hf 0 (by decide);simpa [size3] using this
  obtain ⟨a0, e0, q0⟩ := cs3 h0;simp only [List.cons.injEq, and_true] at e0;subst e0;have h1 : DataW.trod enc Tryd.prog w base spare held m 3 [c1] = some x1 := by
   have := hf 1 (by decide);simpa [size3] using this
  obtain ⟨a1, e1, q1⟩ := cs3 h1;simp only [List.cons.injEq, and_true] at e1;subst e1;exact ⟨a0, a1, rfl, q0, q1⟩
theorem size88 : Tryd.prog.cellsOf 88 = 4 := by kernel_rfl
theorem cs88 (h : DataW.trod enc Tryd.prog w base spare held fuel 88 cs = some x) : ∃ a0 a1 a2 a3 : Int, cs = [.int .i64 a0, .int .i64 a1, .int .i64 a2, .int .i64 a3] ∧ okI a0 ∧ okI a1 ∧ okI a2 ∧ okI a3 := by
 obtain ⟨xs, m, _, _, hl, hlen, hf⟩ := DataW.trod_array Tryd.underlying88 h
 rw [size88] at hl
 match xs, cs, hlen, hl, hf with
 | [x0, x1, x2, x3], [c0, c1, c2, c3], _, _, hf =>
  have h0 : DataW.trod enc Tryd.prog w base spare held m 3 [c0] = some x0 := by
   have := hf 0 (by decide);simpa [size3] using this
  obtain ⟨a0, e0, q0⟩ := cs3 h0;simp only [List.cons.injEq, and_true] at e0;subst e0;have h1 : DataW.trod enc Tryd.prog w base spare held m 3 [c1] = some x1 := by
   have := hf 1 (by decide);simpa [size3] using this
  obtain ⟨a1, e1, q1⟩ := cs3 h1;simp only [List.cons.injEq, and_true] at e1;subst e1;have h2 : DataW.trod enc Tryd.prog w base spare held m 3 [c2] = some x2 := by
   have := hf 2 (by decide);simpa [size3] using this
  obtain ⟨a2, e2, q2⟩ := cs3 h2;simp only [List.cons.injEq, and_true] at e2;subst e2;have h3 : DataW.trod enc Tryd.prog w base spare held m 3 [c3] = some x3 := by
   have := hf 3 (by decide);simpa [size3] using this
  obtain ⟨a3, e3, q3⟩ := cs3 h3;simp only [List.cons.injEq, and_true] at e3;subst e3;exact ⟨a0, a1, a2, a3, rfl, q0, q1, q2, q3⟩
theorem size117 : Tryd.prog.cellsOf 117 = 2 := by kernel_rfl
theorem cs117 (h : DataW.trod enc Tryd.prog w base spare held fuel 117 cs = some x) : ∃ a0 a1 : Int, cs = [.int .u8 a0, .int .u8 a1] ∧ okB a0 ∧ okB a1 := by
 obtain ⟨xs, m, _, _, hl, hlen, hf⟩ := DataW.trod_array Tryd.underlying117 h
 rw [size117] at hl
 match xs, cs, hlen, hl, hf with
 | [x0, x1], [c0, c1], _, _, hf =>
  have h0 : DataW.trod enc Tryd.prog w base spare held m 5 [c0] = some x0 := by
   have := hf 0 (by decide);simpa [size5] using this
  obtain ⟨a0, e0, q0⟩ := cs5 h0;simp only [List.cons.injEq, and_true] at e0;subst e0;have h1 : DataW.trod enc Tryd.prog w base spare held m 5 [c1] = some x1 := by
   have := hf 1 (by decide);simpa [size5] using this
  obtain ⟨a1, e1, q1⟩ := cs5 h1;simp only [List.cons.injEq, and_true] at e1;subst e1;exact ⟨a0, a1, rfl, q0, q1⟩
end
theorem arg23 {H : Type} {enc : TypeId × Value → H} {W : World} {r : Reach} {b0 base : Nat} {spare : Nat → Bool} {held : Bool} {v : Value} {d : DataW H} {p : List MemPlace} (hv : Value.okWide Tryd.prog W r b0 23 v) (h : DataW.Trod enc Tryd.prog W base spare held 23 v d p) : ∃ a0 a1 : Int, v = .agg #[.int .i64 a0, .int .i64 a1] ∧ okI a0 ∧ okI a1 := by
 have hv' : ∃ cs, v = .agg cs ∧ cs.size = Tryd.prog.cellsOf 23 := by
  simp only [Value.okWide, Tryd.underlying23] at hv;obtain ⟨cs, h1, h2, _⟩ := hv;exact ⟨cs, h1, h2⟩
 obtain ⟨cs, rfl, _⟩ := hv'
 obtain ⟨fuel, hf⟩ := h
 obtain ⟨a0, a1, e, q⟩ := cs23 (cs := cs.toList) hf
 refine ⟨a0, a1, ?_, q⟩
 rw [show cs = (cs.toList).toArray from rfl, e]
theorem arg24 {H : Type} {enc : TypeId × Value → H} {W : World} {r : Reach} {b0 base : Nat} {spare : Nat → Bool} {held : Bool} {v : Value} {d : DataW H} {p : List MemPlace} (hv : Value.okWide Tryd.prog W r b0 24 v) (h : DataW.Trod enc Tryd.prog W base spare held 24 v d p) : ∃ a0 a1 : Int, v = .agg #[.int .i64 a0, .int .i64 a1] ∧ okI a0 ∧ okI a1 := by
 have hv' : ∃ cs, v = .agg cs ∧ cs.size = Tryd.prog.cellsOf 24 := by
  simp only [Value.okWide, Tryd.underlying24] at hv;obtain ⟨cs, h1, h2, _⟩ := hv;exact ⟨cs, h1, h2⟩
 obtain ⟨cs, rfl, _⟩ := hv'
 obtain ⟨fuel, hf⟩ := h
 obtain ⟨a0, a1, e, q⟩ := cs24 (cs := cs.toList) hf
 refine ⟨a0, a1, ?_, q⟩
 rw [show cs = (cs.toList).toArray from rfl, e]
theorem arg37 {H : Type} {enc : TypeId × Value → H} {W : World} {r : Reach} {b0 base : Nat} {spare : Nat → Bool} {held : Bool} {v : Value} {d : DataW H} {p : List MemPlace} (hv : Value.okWide Tryd.prog W r b0 37 v) (h : DataW.Trod enc Tryd.prog W base spare held 37 v d p) : ∃ a0 a1 a2 a3 a4 : Int, v = .agg #[.int .i64 a0, .int .i64 a1, .int .i64 a2, .int .i64 a3, .int .i64 a4] ∧ okI a0 ∧ okI a1 ∧ okI a2 ∧ okI a3 ∧ okI a4 := by
 have hv' : ∃ cs, v = .agg cs ∧ cs.size = Tryd.prog.cellsOf 37 := by
  simp only [Value.okWide, Tryd.underlying37] at hv;obtain ⟨cs, h1, h2, _⟩ := hv;exact ⟨cs, h1, h2⟩
 obtain ⟨cs, rfl, _⟩ := hv'
 obtain ⟨fuel, hf⟩ := h
 obtain ⟨a0, a1, a2, a3, a4, e, q⟩ := cs37 (cs := cs.toList) hf
 refine ⟨a0, a1, a2, a3, a4, ?_, q⟩
 rw [show cs = (cs.toList).toArray from rfl, e]
theorem arg51 {H : Type} {enc : TypeId × Value → H} {W : World} {r : Reach} {b0 base : Nat} {spare : Nat → Bool} {held : Bool} {v : Value} {d : DataW H} {p : List MemPlace} (hv : Value.okWide Tryd.prog W r b0 51 v) (h : DataW.Trod enc Tryd.prog W base spare held 51 v d p) : ∃ a0 a1 : Int, v = .agg #[.int .i64 a0, .int .i64 a1] ∧ okI a0 ∧ okI a1 := by
 have hv' : ∃ cs, v = .agg cs ∧ cs.size = Tryd.prog.cellsOf 51 := by
  simp only [Value.okWide, Tryd.underlying51] at hv;obtain ⟨cs, h1, h2, _⟩ := hv;exact ⟨cs, h1, h2⟩
 obtain ⟨cs, rfl, _⟩ := hv'
 obtain ⟨fuel, hf⟩ := h
 obtain ⟨a0, a1, e, q⟩ := cs51 (cs := cs.toList) hf
 refine ⟨a0, a1, ?_, q⟩
 rw [show cs = (cs.toList).toArray from rfl, e]
theorem arg88 {H : Type} {enc : TypeId × Value → H} {W : World} {r : Reach} {b0 base : Nat} {spare : Nat → Bool} {held : Bool} {v : Value} {d : DataW H} {p : List MemPlace} (hv : Value.okWide Tryd.prog W r b0 88 v) (h : DataW.Trod enc Tryd.prog W base spare held 88 v d p) : ∃ a0 a1 a2 a3 : Int, v = .agg #[.int .i64 a0, .int .i64 a1, .int .i64 a2, .int .i64 a3] ∧ okI a0 ∧ okI a1 ∧ okI a2 ∧ okI a3 := by
 have hv' : ∃ cs, v = .agg cs ∧ cs.size = Tryd.prog.cellsOf 88 := by
  simp only [Value.okWide, Tryd.underlying88] at hv;obtain ⟨cs, h1, h2, _⟩ := hv;exact ⟨cs, h1, h2⟩
 obtain ⟨cs, rfl, _⟩ := hv'
 obtain ⟨fuel, hf⟩ := h
 obtain ⟨a0, a1, a2, a3, e, q⟩ := cs88 (cs := cs.toList) hf
 refine ⟨a0, a1, a2, a3, ?_, q⟩
 rw [show cs = (cs.toList).toArray from rfl, e]
theorem arg117 {H : Type} {enc : TypeId × Value → H} {W : World} {r : Reach} {b0 base : Nat} {spare : Nat → Bool} {held : Bool} {v : Value} {d : DataW H} {p : List MemPlace} (hv : Value.okWide Tryd.prog W r b0 117 v) (h : DataW.Trod enc Tryd.prog W base spare held 117 v d p) : ∃ a0 a1 : Int, v = .agg #[.int .u8 a0, .int .u8 a1] ∧ okB a0 ∧ okB a1 := by
 have hv' : ∃ cs, v = .agg cs ∧ cs.size = Tryd.prog.cellsOf 117 := by
  simp only [Value.okWide, Tryd.underlying117] at hv;obtain ⟨cs, h1, h2, _⟩ := hv;exact ⟨cs, h1, h2⟩
 obtain ⟨cs, rfl, _⟩ := hv'
 obtain ⟨fuel, hf⟩ := h
 obtain ⟨a0, a1, e, q⟩ := cs117 (cs := cs.toList) hf
 refine ⟨a0, a1, ?_, q⟩
 rw [show cs = (cs.toList).toArray from rfl, e]
theorem choose_list {α : Type} {Q : Nat → α → Prop} : ∀ (n : Nat), (∀ i, i < n → ∃ x, Q i x) → ∃ xs : List α, xs.length = n ∧ ∀ i x, xs[i]? = some x → Q i x := by
 intro n
 induction n with
 | zero => intro _; exact ⟨[], rfl, fun i x h => by simp at h⟩
 | succ n ih =>
  intro h;obtain ⟨xs, hl, hx⟩ := ih (fun i hi => h i (by omega));obtain ⟨y, hy⟩ := h n (by omega);refine ⟨xs ++ [y], by simp [hl], fun i x hi => ?_⟩;by_cases hlt : i < xs.length
  ·rw [List.getElem?_append_left hlt] at hi; exact hx i x hi
  ·rw [List.getElem?_append_right (by omega)] at hi;have : i = n := by
    rcases Nat.eq_zero_or_pos (i - xs.length) with h0 | h0
    ·omega
    ·rw [List.getElem?_eq_none (by simp; omega)] at hi; cases hi
   subst this;rw [hl] at hi;simp at hi
   subst hi; exact hy
theorem arg60 {Hd : Type} {enc : TypeId × Value → Hd} {W : World} {r : Reach} {b0 base : Nat} {spare : Nat → Bool} {held : Bool} {v : Value} {d : DataW Hd} {p : List MemPlace} (hv : Value.okWide Tryd.prog W r b0 60 v) (h : DataW.Trod enc Tryd.prog W base spare held 60 v d p) :
  ∃ (A : Option Addr) (c : Nat) (l : List H.S112), v = .slice A l.length c ∧ l.length ≤ c ∧ c ≤ maxLen ∧ Kd.C H.k112 W A l.length l ∧ ∀ x ∈ l, okI x.f0 ∧ okI x.f1.f0 ∧ okI x.f1.f1 := by
 obtain ⟨A0, n0, c0, rfl⟩ := okWide_slice Tryd.underlying60 hv
 obtain ⟨fuel, hf⟩ := h
 rcases open_slice Tryd.underlying60 hf with ⟨hcs, _⟩ | ⟨a, len, cap, m, n, D, Pl, hcs, hb, hl, hm, hmm, hx, hi⟩
 ·simp [Value.cells] at hcs
  obtain ⟨rfl, rfl, rfl⟩ := hcs;exact ⟨none, 0, [], rfl, Nat.le_refl _, by decide, ⟨rfl, by decide, fun h => absurd h (by decide)⟩, fun x hx => by cases hx⟩
 ·simp [Value.cells] at hcs
  obtain ⟨rfl, rfl, rfl⟩ := hcs;have hle : n0 ≤ m := by rw [hmm]; split <;> omega
  obtain ⟨xs, hxl, hxs⟩ := choose_list (Q := fun i x => ∃ cs', W.cells? base (a.add (i * Tryd.prog.cellsOf 112)) (Tryd.prog.cellsOf 112) = some cs' ∧ H.k112.K W x cs' ∧ okI x.f0 ∧ okI x.f1.f0 ∧ okI x.f1.f1) n0 (fun i hil => by
   obtain ⟨cs', h1, h2⟩ := hi i (by omega);obtain ⟨a0, a1, a2, e, q0, q1, q2⟩ := cs112 h2;subst e;exact ⟨⟨a0, ⟨a1, a2⟩⟩, _, h1, H.k112_mk W ⟨a0, ⟨a1, a2⟩⟩, q0, q1, q2⟩)
  subst hxl;refine ⟨some a, c0, xs, rfl, hl, hm, ⟨rfl, by unfold maxLen at hm; omega, fun _ => ⟨a, rfl, fun j x hj => ?_⟩⟩, fun x hx => ?_⟩
  ·obtain ⟨cs', h1, h2, _⟩ := hxs j x hj;obtain ⟨hbb, hcl, hat⟩ := World.cells?_some h1;rw [size112] at hcl hat;refine ⟨cs', H.k112.K_len h2, h2, fun i u hu => ?_⟩;have hil : i < 3 := by
    have := (List.getElem?_eq_some_iff.1 hu).1;omega
   have := hat i hil;rw [← Go.Deep.add_add];exact this.trans hu
  ·obtain ⟨j, hj⟩ := List.mem_iff_getElem?.1 hx;obtain ⟨_, _, _, q⟩ := hxs j x hj;exact q
theorem arg78 {Hd : Type} {enc : TypeId × Value → Hd} {W : World} {r : Reach} {b0 base : Nat} {spare : Nat → Bool} {held : Bool} {v : Value} {d : DataW Hd} {p : List MemPlace} (hv : Value.okWide Tryd.prog W r b0 78 v) (h : DataW.Trod enc Tryd.prog W base spare held 78 v d p) :
  ∃ (A : Option Addr) (c : Nat) (l : List H.S121), v = .slice A l.length c ∧ l.length ≤ c ∧ c ≤ maxLen ∧ Kd.C H.k121 W A l.length l ∧ ∀ x ∈ l, okS x.f0 ∧ okI x.f1 ∧ okI x.f2 := by
 obtain ⟨A0, n0, c0, rfl⟩ := okWide_slice Tryd.underlying78 hv
 obtain ⟨fuel, hf⟩ := h
 rcases open_slice Tryd.underlying78 hf with ⟨hcs, _⟩ | ⟨a, len, cap, m, n, D, Pl, hcs, hb, hl, hm, hmm, hx, hi⟩
 ·simp [Value.cells] at hcs
  obtain ⟨rfl, rfl, rfl⟩ := hcs;exact ⟨none, 0, [], rfl, Nat.le_refl _, by decide, ⟨rfl, by decide, fun h => absurd h (by decide)⟩, fun x hx => by cases hx⟩
 ·simp [Value.cells] at hcs
  obtain ⟨rfl, rfl, rfl⟩ := hcs;have hle : n0 ≤ m := by rw [hmm]; split <;> omega
  obtain ⟨xs, hxl, hxs⟩ := choose_list (Q := fun i x => ∃ cs', W.cells? base (a.add (i * Tryd.prog.cellsOf 121)) (Tryd.prog.cellsOf 121) = some cs' ∧ H.k121.K W x cs' ∧ okS x.f0 ∧ okI x.f1 ∧ okI x.f2) n0 (fun i hil => by
   obtain ⟨cs', h1, h2⟩ := hi i (by omega);obtain ⟨a0, a1, a2, e, q0, q1, q2⟩ := cs121 h2;subst e;exact ⟨⟨a0, a1, a2⟩, _, h1, H.k121_mk W ⟨a0, a1, a2⟩, q0, q1, q2⟩)
  subst hxl;refine ⟨some a, c0, xs, rfl, hl, hm, ⟨rfl, by unfold maxLen at hm; omega, fun _ => ⟨a, rfl, fun j x hj => ?_⟩⟩, fun x hx => ?_⟩
  ·obtain ⟨cs', h1, h2, _⟩ := hxs j x hj;obtain ⟨hbb, hcl, hat⟩ := World.cells?_some h1;rw [size121] at hcl hat;refine ⟨cs', H.k121.K_len h2, h2, fun i u hu => ?_⟩;have hil : i < 3 := by
    have := (List.getElem?_eq_some_iff.1 hu).1;omega
   have := hat i hil;rw [← Go.Deep.add_add];exact this.trans hu
  ·obtain ⟨j, hj⟩ := List.mem_iff_getElem?.1 hx;obtain ⟨_, _, _, q⟩ := hxs j x hj;exact q
theorem arg94 {Hd : Type} {enc : TypeId × Value → Hd} {W : World} {r : Reach} {b0 base : Nat} {spare : Nat → Bool} {held : Bool} {v : Value} {d : DataW Hd} {p : List MemPlace} (hv : Value.okWide Tryd.prog W r b0 94 v) (h : DataW.Trod enc Tryd.prog W base spare held 94 v d p) :
  ∃ (A : Option Addr) (c : Nat) (l : List H.S119), v = .slice A l.length c ∧ l.length ≤ c ∧ c ≤ maxLen ∧ Kd.C H.k119 W A l.length l ∧ ∀ x ∈ l, okI x.f0 ∧ okI x.f1 ∧ okI x.f2 ∧ okS x.f3 := by
 obtain ⟨A0, n0, c0, rfl⟩ := okWide_slice Tryd.underlying94 hv
 obtain ⟨fuel, hf⟩ := h
 rcases open_slice Tryd.underlying94 hf with ⟨hcs, _⟩ | ⟨a, len, cap, m, n, D, Pl, hcs, hb, hl, hm, hmm, hx, hi⟩
 ·simp [Value.cells] at hcs
  obtain ⟨rfl, rfl, rfl⟩ := hcs;exact ⟨none, 0, [], rfl, Nat.le_refl _, by decide, ⟨rfl, by decide, fun h => absurd h (by decide)⟩, fun x hx => by cases hx⟩
 ·simp [Value.cells] at hcs
  obtain ⟨rfl, rfl, rfl⟩ := hcs;have hle : n0 ≤ m := by rw [hmm]; split <;> omega
  obtain ⟨xs, hxl, hxs⟩ := choose_list (Q := fun i x => ∃ cs', W.cells? base (a.add (i * Tryd.prog.cellsOf 119)) (Tryd.prog.cellsOf 119) = some cs' ∧ H.k119.K W x cs' ∧ okI x.f0 ∧ okI x.f1 ∧ okI x.f2 ∧ okS x.f3) n0 (fun i hil => by
   obtain ⟨cs', h1, h2⟩ := hi i (by omega);obtain ⟨a0, a1, a2, a3, e, q0, q1, q2, q3⟩ := cs119 h2;subst e;exact ⟨⟨a0, a1, a2, a3⟩, _, h1, H.k119_mk W ⟨a0, a1, a2, a3⟩, q0, q1, q2, q3⟩)
  subst hxl;refine ⟨some a, c0, xs, rfl, hl, hm, ⟨rfl, by unfold maxLen at hm; omega, fun _ => ⟨a, rfl, fun j x hj => ?_⟩⟩, fun x hx => ?_⟩
  ·obtain ⟨cs', h1, h2, _⟩ := hxs j x hj;obtain ⟨hbb, hcl, hat⟩ := World.cells?_some h1;rw [size119] at hcl hat;refine ⟨cs', H.k119.K_len h2, h2, fun i u hu => ?_⟩;have hil : i < 4 := by
    have := (List.getElem?_eq_some_iff.1 hu).1;omega
   have := hat i hil;rw [← Go.Deep.add_add];exact this.trans hu
  ·obtain ⟨j, hj⟩ := List.mem_iff_getElem?.1 hx;obtain ⟨_, _, _, q⟩ := hxs j x hj;exact q
end Go.Proofs.YtppighiaffppkaaDoor.R
end
