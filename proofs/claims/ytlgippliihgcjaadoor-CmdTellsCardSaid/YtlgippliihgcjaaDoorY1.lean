/- Bytes that came as an argument. -/
import Derived.Test.YtlgippliihgcjaaDoorY0
import Derived.Test.YtlgippliihgcjaaDoorR3
import Derived.ChangeSlices
namespace Go.Proofs.YtlgippliihgcjaaDoor.C
set_option linter.unusedVariables false
set_option linter.unusedSimpArgs false
open Go.ChangeShapes Go.WideShapes Go.ChangeAt Go.RowKit Go.Proofs.YtlgippliihgcjaaDoorW.PrintWords

theorem byte_wf' {n : Int} (h : (Lit.int .u8 n).wf = true) : 0 ≤ n ∧ n < 256 := by
  have h2 : IntKind.u8.min ≤ n ∧ n ≤ IntKind.u8.max := by simpa [Lit.wf] using h
  have e1 : IntKind.u8.min = 0 := by decide
  have e2 : IntKind.u8.max = 255 := by decide
  rw [e1, e2] at h2
  omega

set_option maxRecDepth 100000 in
theorem open_bytes {H : Type} {enc : TypeId × Value → H} {w : World} {r : Reach} {b0 : Nat} {v : Value} {d : DataW H} {p : List MemPlace}
    (hv : Value.okWide Tryd.prog w r b0 30 v) (h : DataW.Trod enc Tryd.prog w 0 (fun _ => true) true 30 v d p) :
    ∃ (A : Option Addr) (cp : Nat) (bs : List Int), v = .slice A bs.length cp ∧ BRead w A bs ∧ Bytes bs ∧ bs.length ≤ cp := by
  obtain ⟨a, len, cap, rfl⟩ := okWide_slice Tryd.underlying30 hv
  obtain ⟨fuel, hf⟩ := h
  have hcl : (Value.slice a len cap).cells.toList = [.slice a len cap] := rfl
  rw [hcl] at hf
  have hc1 : Tryd.prog.cellsOf 5 = 1 := by kernel_rfl
  rcases open_ints Tryd.underlying30 Tryd.underlying5 hc1 hf with ⟨h1, _⟩ | ⟨a', len', cap', zs, h1, _, hlc, hcm, hzl, _, hc, hw⟩
  · have h2 : a = none ∧ len = 0 ∧ cap = 0 := by simpa using h1
    obtain ⟨rfl, rfl, rfl⟩ := h2
    exact ⟨none, 0, [], rfl, Kd.C_nil _ _, fun x hx => by simp at hx, Nat.le_refl _⟩
  · have h2 : a = some a' ∧ len = len' ∧ cap = cap' := by simpa using h1
    obtain ⟨rfl, rfl, rfl⟩ := h2
    simp only [if_true] at hzl
    have hl : (zs.take len).length = len := by rw [List.length_take]; omega
    unfold maxLen at hcm
    refine ⟨some a', cap, zs.take len, by rw [hl], ?_, fun x hx => byte_wf' (hw x (List.mem_of_mem_take hx)), by rw [hl]; exact hlc⟩
    refine Kd.C_of_reads (d := 0) ⟨rfl, by rw [hl]; omega, fun _ => ⟨a', rfl, fun j hj => ?_⟩⟩
    rw [hl] at hj
    rw [hc j (by omega), List.getD_eq_getElem?_getD, List.getD_eq_getElem?_getD, List.getElem?_take_of_lt hj]
end Go.Proofs.YtlgippliihgcjaaDoor.C
