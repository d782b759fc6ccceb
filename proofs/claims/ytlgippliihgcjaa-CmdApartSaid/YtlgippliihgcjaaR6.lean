/- coil.Nums of a reader. -/
import Derived.Test.YtlgippliihgcjaaR5
namespace Go.Proofs.Ytlgippliihgcjaa.C
set_option linter.unusedVariables false
set_option linter.unusedSimpArgs false
open Go.RowKit Go.Proofs.YtlgippliihgcjaaW.PrintWords

theorem info_int : (Try.prog.info? 3).map (fun i => (i.zero, i.size, i.bytes)) = some (some (.int .i64 0), 1, 8) := by kernel_rfl
/-- A slice of numbers of the call's own. -/
abbrev IOwn (w : World) (base : Nat) (v : Value) (l : List Int) : Prop := w.ownsRow base 3 1 v l.length (nums .i64 l)
theorem IOwn.nil (w : World) (base : Nat) : IOwn w base (.slice none 0 0) [] := own_nil w base _ 1
theorem IOwn.below {w w1 : World} {base : Nat} {v : Value} {l : List Int} (h : IOwn w base v l) (hb : Below w.heap.size w w1) : IOwn w1 base v l := pw_own_below h hb
theorem IOwn.lower {w : World} {base base' : Nat} {v : Value} {l : List Int} (h : IOwn w base v l) (hb : base' ≤ base) : IOwn w base' v l := own_weaken h hb
theorem IOwn.grownR {w w1 : World} {base : Nat} {v : Value} {bs : List Int} {g : Nat} {cs : Array Value} (h : IOwn w base v bs) (hg : w.heap[g]? = some (.cells cs 86 (0, 0))) (k : w.grownBy w1 (some g)) : IOwn w1 base v bs :=
  own_other h k (.inr (fun e => own_ne h hg (by decide) e.symm))
theorem IOwn.R {w : World} {base : Nat} {v : Value} {l : List Int} (h : IOwn w base v l) : (Kd.int .i64).R 3 w base (fun _ => True) v l := Kd.R_of_own (enc := Value.int .i64) h (fun _ _ => trivial)
theorem IOwn.form {w : World} {base : Nat} {v : Value} {l : List Int} (h : IOwn w base v l) : ∃ A c, v = .slice A l.length c ∧ l.length ≤ c ∧ (Kd.int .i64).C w A l.length l := by
  obtain ⟨A, c, e, hl, hc⟩ := Kd.R_reads h.R
  exact ⟨A, c, e, hl, hc⟩

end Go.Proofs.Ytlgippliihgcjaa.C
