/- A command that came as an argument. -/
import Derived.Test.YtlgippliihgcjaaDoorC1
import Derived.ProofKit
import Derived.Deep.Strs
import Derived.ChangeArms
import Derived.WideShapes
namespace Go.Proofs.YtlgippliihgcjaaDoor.C
set_option linter.unusedVariables false
set_option linter.unusedSimpArgs false
open Go.RowKit Go.Proofs.YtlgippliihgcjaaDoorW.PrintWords Go.ChangeShapes Go.WideShapes Go.ChangeAt

section
variable {H : Type} {enc : TypeId × Value → H} {w : World} {base n : Nat} {spare : Nat → Bool} {held : Bool} {x : DataW H × List MemPlace} {cs : List Value} {t : TypeId}
theorem part_of {fs : Array Field} {xs : List (DataW H × List MemPlace)} (h : ∀ (i : Nat) (f : Field), fs[i]? = some f → DataW.trod enc Tryd.prog w base spare held n f.type ((cs.drop f.offset).take (Tryd.prog.cellsOf f.type)) = xs[i]?) (hl : xs.length = fs.size)
    (i T off cnt : Nat) (f : Field) (hf : fs[i]? = some f) (ht : f.type = T) (ho : f.offset = off) (hc : Tryd.prog.cellsOf T = cnt) (r : List Value) (hr : (cs.drop off).take cnt = r) : ∃ y, DataW.trod enc Tryd.prog w base spare held n T r = some y := by
  obtain ⟨hi, _⟩ := Array.getElem?_eq_some_iff.1 hf
  subst ht ho hc hr
  exact ⟨xs[i]'(by omega), (h i f hf).trans (List.getElem?_eq_getElem _)⟩
end

theorem of_opened {w : World} {A : Option Addr} {len : Nat} (h : (A = none ∧ len = 0) ∨ ∃ (a : Addr) (S : Nat → ByteArray), A = some a ∧ len ≤ 9223372036854775807 ∧ ∀ i, i < len → w.cell? (a.add i) = some (.string (S i))) :
    ∃ l : List ByteArray, l.length = len ∧ Kd.string.C w A l.length l := by
  rcases h with ⟨rfl, rfl⟩ | ⟨a, S, rfl, hl, hc⟩
  · exact ⟨[], rfl, Kd.C_nil _ _⟩
  · refine ⟨(List.range len).map S, by simp, ?_⟩
    refine Kd.C_of_reads (d := ⟨#[]⟩) ⟨rfl, by simpa using hl, fun _ => ⟨a, rfl, fun j hj => ?_⟩⟩
    rw [List.length_map, List.length_range] at hj
    rw [hc j hj, List.getD_eq_getElem?_getD, List.getElem?_map, List.getElem?_range hj]
    rfl

set_option maxHeartbeats 4000000 in
set_option maxRecDepth 100000 in
/-- A command that came as an argument, opened. -/
theorem open_cmd {H : Type} {enc : TypeId × Value → H} {w : World} {r : Reach} {b0 base : Nat} {spare : Nat → Bool} {held : Bool} {v : Value} {d : DataW H} {p : List MemPlace}
    (hv : Value.okWide Tryd.prog w r b0 26 v) (h : DataW.Trod enc Tryd.prog w base spare held 26 v d p) :
    ∃ (c : Cm) (A : Option Addr) (k : Nat), v = .agg #[.int .i64 c.client, .int .i64 c.req, .int .i64 c.kind, .string c.queue, .int .i64 c.vis, .int .i64 c.ret, .int .i64 c.del, .int .i64 c.win, .int .i64 c.mx, .string c.dead, .bool c.fifo, .string c.body, .string c.group, .string c.key, .string c.receipt, .slice A c.bodies.length k, .int .i64 c.n, .int .i64 c.m] ∧ Kd.string.C w A c.bodies.length c.bodies := by
  obtain ⟨cs, rfl, hsz⟩ := okWide_struct Tryd.underlying26 hv
  have hC : Tryd.prog.cellsOf 26 = 18 := by kernel_rfl
  have hC1 : Tryd.prog.cellsOf 3 = 1 := by kernel_rfl
  have hC2 : Tryd.prog.cellsOf 9 = 1 := by kernel_rfl
  have hC3 : Tryd.prog.cellsOf 24 = 1 := by kernel_rfl
  have hC4 : Tryd.prog.cellsOf 23 = 7 := by kernel_rfl
  have hC5 : Tryd.prog.cellsOf 4 = 1 := by kernel_rfl
  rw [hC] at hsz
  obtain ⟨fuel, hf⟩ := h
  have hcl : (Value.agg cs).cells.toList = cs.toList := rfl
  rw [hcl] at hf
  obtain ⟨l⟩ := cs
  simp only [List.size_toArray] at hsz
  match l, hsz with
  | [c0, c1, c2, c3, c4, c5, c6, c7, c8, c9, c10, c11, c12, c13, c14, c15, c16, c17], _ =>
  obtain ⟨xs, n, _, _, _, hxl, hx⟩ := DataW.trod_struct Tryd.underlying26 hf
  obtain ⟨y0, e0⟩ := part_of hx hxl 0 3 0 1 _ rfl rfl rfl hC1 [c0] rfl
  obtain ⟨y1, e1⟩ := part_of hx hxl 1 3 1 1 _ rfl rfl rfl hC1 [c1] rfl
  obtain ⟨y2, e2⟩ := part_of hx hxl 2 3 2 1 _ rfl rfl rfl hC1 [c2] rfl
  obtain ⟨y3, e3⟩ := part_of hx hxl 3 9 3 1 _ rfl rfl rfl hC2 [c3] rfl
  obtain ⟨y4, e4⟩ := part_of hx hxl 4 23 4 7 _ rfl rfl rfl hC4 [c4, c5, c6, c7, c8, c9, c10] rfl
  obtain ⟨y5, e5⟩ := part_of hx hxl 5 9 11 1 _ rfl rfl rfl hC2 [c11] rfl
  obtain ⟨y6, e6⟩ := part_of hx hxl 6 9 12 1 _ rfl rfl rfl hC2 [c12] rfl
  obtain ⟨y7, e7⟩ := part_of hx hxl 7 9 13 1 _ rfl rfl rfl hC2 [c13] rfl
  obtain ⟨y8, e8⟩ := part_of hx hxl 8 9 14 1 _ rfl rfl rfl hC2 [c14] rfl
  obtain ⟨y9, e9⟩ := part_of hx hxl 9 24 15 1 _ rfl rfl rfl hC3 [c15] rfl
  obtain ⟨y10, e10⟩ := part_of hx hxl 10 3 16 1 _ rfl rfl rfl hC1 [c16] rfl
  obtain ⟨y11, e11⟩ := part_of hx hxl 11 3 17 1 _ rfl rfl rfl hC1 [c17] rfl
  obtain ⟨zs, n2, _, _, _, hzl, hz⟩ := DataW.trod_struct Tryd.underlying23 e4
  obtain ⟨u0, f0⟩ := part_of hz hzl 0 3 0 1 _ rfl rfl rfl hC1 [c4] rfl
  obtain ⟨u1, f1⟩ := part_of hz hzl 1 3 1 1 _ rfl rfl rfl hC1 [c5] rfl
  obtain ⟨u2, f2⟩ := part_of hz hzl 2 3 2 1 _ rfl rfl rfl hC1 [c6] rfl
  obtain ⟨u3, f3⟩ := part_of hz hzl 3 3 3 1 _ rfl rfl rfl hC1 [c7] rfl
  obtain ⟨u4, f4⟩ := part_of hz hzl 4 3 4 1 _ rfl rfl rfl hC1 [c8] rfl
  obtain ⟨u5, f5⟩ := part_of hz hzl 5 9 5 1 _ rfl rfl rfl hC2 [c9] rfl
  obtain ⟨u6, f6⟩ := part_of hz hzl 6 4 6 1 _ rfl rfl rfl hC5 [c10] rfl
  obtain ⟨i0, q0, _⟩ := DataW.trod_int Tryd.underlying3 e0
  obtain ⟨i1, q1, _⟩ := DataW.trod_int Tryd.underlying3 e1
  obtain ⟨i2, q2, _⟩ := DataW.trod_int Tryd.underlying3 e2
  obtain ⟨s3, q3, _⟩ := DataW.trod_string Tryd.underlying9 e3
  obtain ⟨j0, g0, _⟩ := DataW.trod_int Tryd.underlying3 f0
  obtain ⟨j1, g1, _⟩ := DataW.trod_int Tryd.underlying3 f1
  obtain ⟨j2, g2, _⟩ := DataW.trod_int Tryd.underlying3 f2
  obtain ⟨j3, g3, _⟩ := DataW.trod_int Tryd.underlying3 f3
  obtain ⟨j4, g4, _⟩ := DataW.trod_int Tryd.underlying3 f4
  obtain ⟨j5, g5, _⟩ := DataW.trod_string Tryd.underlying9 f5
  obtain ⟨j6, g6, _⟩ := DataW.trod_bool Tryd.underlying4 f6
  obtain ⟨s5, q5, _⟩ := DataW.trod_string Tryd.underlying9 e5
  obtain ⟨s6, q6, _⟩ := DataW.trod_string Tryd.underlying9 e6
  obtain ⟨s7, q7, _⟩ := DataW.trod_string Tryd.underlying9 e7
  obtain ⟨s8, q8, _⟩ := DataW.trod_string Tryd.underlying9 e8
  obtain ⟨i10, q10, _⟩ := DataW.trod_int Tryd.underlying3 e10
  obtain ⟨i11, q11, _⟩ := DataW.trod_int Tryd.underlying3 e11
  have hb : ∃ (A : Option Addr) (l : List ByteArray) (k : Nat), c15 = .slice A l.length k ∧ Kd.string.C w A l.length l := by
    rcases Go.Deep.open_strs Tryd.underlying24 Tryd.underlying9 hC2 e9 with ⟨h1, _⟩ | ⟨a, len, cap, m, S, h1, _, hl, hm, hmm, _, hcell⟩
    · obtain ⟨l, hl, hc⟩ := of_opened (w := w) (A := none) (len := 0) (.inl ⟨rfl, rfl⟩)
      exact ⟨none, l, 0, by rw [hl]; exact (List.cons.inj h1).1, hc⟩
    · obtain ⟨l, hl2, hc⟩ := of_opened (w := w) (A := some a) (len := len) (.inr ⟨a, S, rfl, Nat.le_trans hl (Nat.le_trans hm (by decide)), fun i hi => (hcell i (by split at hmm <;> omega)).1⟩)
      exact ⟨some a, l, cap, by rw [hl2]; exact (List.cons.inj h1).1, hc⟩
  obtain ⟨A, l, k, rfl, hc⟩ := hb
  simp only [List.cons.injEq, and_true] at q0 q1 q2 q3 q5 q6 q7 q8 q10 q11 g0 g1 g2 g3 g4 g5 g6
  subst q0 q1 q2 q3 q5 q6 q7 q8 q10 q11 g0 g1 g2 g3 g4 g5 g6
  exact ⟨{ client := i0, req := i1, kind := i2, queue := s3, vis := j0, ret := j1, del := j2, win := j3, mx := j4, dead := j5, fifo := j6, body := s5, group := s6, key := s7, receipt := s8, bodies := l, n := i10, m := i11 }, A, k, rfl, hc⟩

end Go.Proofs.YtlgippliihgcjaaDoor.C
