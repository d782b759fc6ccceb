/- CmdApart returns true for every input and leaves its arguments as they were. Conditions: none beyond those of the given row. -/
import Derived.Test.YtlgippliihgcjaaRows
import Derived.Test.YtlgippliihgcjaaL3
import Derived.Test.YtlgippliihgcjaaW1
import Derived.Test.YtlgippliihgcjaaX1
import Derived.WalkKit
import Derived.ProofKit
import Derived.OpenShut
import Derived.ShutString
import Derived.ChangeOld
import Derived.Below
import Derived.SizedLaws
namespace Go.Proofs.Ytlgippliihgcjaa.C
set_option linter.unusedVariables false
set_option linter.unusedSimpArgs false
open Go.ChangeShapes Go.WideShapes Go.ChangeAt Go.RowKit Go.Proofs.YtlgippliihgcjaaW.PrintWords
theorem own : ownKnob Try.prog.godebug = none := by kernel_rfl
theorem laidOut : laidOutB Try.prog = true := by kernel_rfl

theorem apart_walk (a b : Cm) (A B : Option Addr) (ka kb : Nat) (w : World) (hA : Kd.string.C w A a.bodies.length a.bodies) (hB : Kd.string.C w B b.bodies.length b.bodies) :
    Calls Try.prog 3 #[.agg #[.int .i64 a.client, .int .i64 a.req, .int .i64 a.kind, .string a.queue, .int .i64 a.vis, .int .i64 a.ret, .int .i64 a.del, .int .i64 a.win, .int .i64 a.mx, .string a.dead, .bool a.fifo, .string a.body, .string a.group, .string a.key, .string a.receipt, .slice A a.bodies.length ka, .int .i64 a.n, .int .i64 a.m], .agg #[.int .i64 b.client, .int .i64 b.req, .int .i64 b.kind, .string b.queue, .int .i64 b.vis, .int .i64 b.ret, .int .i64 b.del, .int .i64 b.win, .int .i64 b.mx, .string b.dead, .bool b.fifo, .string b.body, .string b.group, .string b.key, .string b.receipt, .slice B b.bodies.length kb, .int .i64 b.n, .int .i64 b.m]] w fun e w' => e = .returned (.bool true) ∧ Below w.heap.size w w' :=
  apart_any awake_any a b A B ka kb w hA hB

set_option maxRecDepth 100000 in
theorem cmdApart_lifted (os : Os) (started : os.Started) (H : Type) (enc : TypeId × Value → H) :
    ReturnsInHanded {} Try.checked os 3 .any (Rows.cmdApartSpec.pre6 enc Try.prog Try.f3 Rows.cmdApartRow.domain false) (Rows.cmdApartSpec.post enc Try.prog Try.f3 false true false false) := by
  refine returnsInHanded_of_change (C := Try.checked) own started (by kernel_rfl) Try.func3
    (ChangeSpec.witness6 (enc := enc) (C := Try.checked) false ⟨#[], #[.agg #[.int .i64 0, .int .i64 0, .int .i64 0, .string ByteArray.empty, .int .i64 0, .int .i64 0, .int .i64 0, .int .i64 0, .int .i64 0, .string ByteArray.empty, .bool false, .string ByteArray.empty, .string ByteArray.empty, .string ByteArray.empty, .string ByteArray.empty, .slice none 0 0, .int .i64 0, .int .i64 0], .agg #[.int .i64 0, .int .i64 0, .int .i64 0, .string ByteArray.empty, .int .i64 0, .int .i64 0, .int .i64 0, .int .i64 0, .int .i64 0, .string ByteArray.empty, .bool false, .string ByteArray.empty, .string ByteArray.empty, .string ByteArray.empty, .string ByteArray.empty, .slice none 0 0, .int .i64 0, .int .i64 0]], []⟩ 12 (by kernel_rfl) (by kernel_rfl) (by kernel_rfl) (by kernel_rfl)) ?_
  intro W base args ds gs before hval0 hW hcnd _
  have hval : ∀ (j : Nat) t v, Try.f3.params[j]? = some t → args[j]? = some v → Value.okWide Try.prog W .any base t v := hval0
  have hW' := hW
  obtain ⟨p, q, hA0, hV, rfl, hfz, hnd⟩ := hW
  have hA : DataW.TrodAll enc Try.prog W 0 (fun _ => true) true Try.f3.params.toList args.toList ds p := hA0
  rw [Try.params3] at hA hval
  obtain ⟨v0, v1, d0, d1, p0, p1, hargs, rfl, rfl, h0, h1⟩ := trodAll_two hA
  obtain rfl : args = #[v0, v1] := by cases args; simp_all
  obtain ⟨rfl, rfl⟩ := trodVars_none hV
  have k0 := h0
  have k1 := h1
  have lt0 : ∀ x ∈ p0, x.block < W.heap.size := by obtain ⟨m, hm⟩ := k0; exact DataW.trod_lt m _ _ _ hm
  have lt1 : ∀ x ∈ p1, x.block < W.heap.size := by obtain ⟨m, hm⟩ := k1; exact DataW.trod_lt m _ _ _ hm
  obtain ⟨a, A, ka, rfl, hCa⟩ := open_cmd (hval 0 26 v0 rfl rfl) h0
  obtain ⟨b, B, kb, rfl, hCb⟩ := open_cmd (hval 1 26 v1 rfl rfl) h1
  clear hA0 hval0
  refine (apart_walk a b A B ka kb W hCa hCb).mono fun e W' ⟨he, bel⟩ => ?_
  subst he
  exact ⟨_, rfl, _, _, _, [], _, [], hW', trodAll_mk1 (shut_bool Try.underlying4 _), trodAll_cons_mk (Below.trod laidOut (by kernel_rfl) (of_decide_eq_true (by kernel_rfl)) k0 bel lt0) (trodAll_cons_mk (Below.trod laidOut (by kernel_rfl) (of_decide_eq_true (by kernel_rfl)) k1 bel lt1) trodAll_mk0), rfl, bel.frame _, fun h => by cases h⟩

theorem cmdApart_over : Rows.cmdApartRow.holds Try.pinned (OpenSpec.ofChange Rows.cmdApartSpec) :=
  OpenClaim.holds_of_wide 3 Try.f3 rfl rfl rfl rfl rfl rfl rfl ⟨rfl, rfl, rfl, rfl, rfl⟩ rfl rfl rfl rfl rfl (by kernel_rfl) Try.func3 (by kernel_rfl)
    (of_decide_eq_true (by kernel_rfl)) (by unfold Func.isWrapper; first | (rw [if_pos (by decide +kernel)]; kernel_rfl) | (rw [if_neg (by decide +kernel)]; exact ⟨rfl, rfl⟩))
    (fun os started H enc _ => cmdApart_lifted os started H enc)
end Go.Proofs.Ytlgippliihgcjaa.C
namespace Go.Proofs.Ytlgippliihgcjaa
theorem cmdApart_holds : Rows.CmdApartSaid := C.cmdApart_over
#print axioms cmdApart_holds
end Go.Proofs.Ytlgippliihgcjaa
