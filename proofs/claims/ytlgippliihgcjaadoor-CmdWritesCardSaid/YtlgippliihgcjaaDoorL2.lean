/- SameCmd. -/
import Derived.Test.YtlgippliihgcjaaDoorC6
import Derived.Test.YtlgippliihgcjaaDoorWEqStruct
import Derived.Deep.QuietTactic
import Derived.BigQuiet
namespace Go.Proofs.YtlgippliihgcjaaDoor.C
set_option linter.unusedVariables false
set_option linter.unusedSimpArgs false
open Go.RowKit Go.Proofs.YtlgippliihgcjaaDoorW.PrintWords Go.Proofs.YtlgippliihgcjaaDoorW.PrintLast

/-- Attributes that are the same. -/
def sameAt (a b : Cm) : Bool := a.vis == b.vis && (a.ret == b.ret && (a.del == b.del && (a.win == b.win && (a.mx == b.mx && (a.dead.toList == b.dead.toList && (a.fifo == b.fifo))))))
def sameNum (a b : Cm) : Bool := (a.client == b.client) && ((a.req == b.req) && ((a.kind == b.kind) && ((a.n == b.n) && ((a.m == b.m) && sameAt a b))))
def sameTxt (a b : Cm) : Bool := (a.queue.toList == b.queue.toList) && ((a.body.toList == b.body.toList) && ((a.group.toList == b.group.toList) && ((a.key.toList == b.key.toList) && (a.receipt.toList == b.receipt.toList))))
/-- Commands that are the same. -/
def sameCm (a b : Cm) : Bool := decide (a.bodies = b.bodies) && (sameNum a b && sameTxt a b)

theorem eq_rattr (d : Nat) (w : World) (x0 y0 : Int) (x1 y1 : Int) (x2 y2 : Int) (x3 y3 : Int) (x4 y4 : Int) (x5 y5 : ByteArray) (x6 y6 : Bool) :
    (Op.equalIn (d + 2) 35 (.agg #[.int .i64 x0, .int .i64 x1, .int .i64 x2, .int .i64 x3, .int .i64 x4, .string x5, .bool x6]) (.agg #[.int .i64 y0, .int .i64 y1, .int .i64 y2, .int .i64 y3, .int .i64 y4, .string y5, .bool y6])).run Tryd.prog w = .ok (x0 == y0 && (x1 == y1 && (x2 == y2 && (x3 == y3 && (x4 == y4 && (x5.toList == y5.toList && (x6 == y6))))))) w := by
  refine eqA_of Tryd.underlying35 (by kernel_rfl) ?_
  refine eqf_cons (by rfl) (by go_simp; rfl) (by go_simp; rfl) (by go_simp) ?_
  refine eqf_cons (by rfl) (by go_simp; rfl) (by go_simp; rfl) (by go_simp) ?_
  refine eqf_cons (by rfl) (by go_simp; rfl) (by go_simp; rfl) (by go_simp) ?_
  refine eqf_cons (by rfl) (by go_simp; rfl) (by go_simp; rfl) (by go_simp) ?_
  refine eqf_cons (by rfl) (by go_simp; rfl) (by go_simp; rfl) (by go_simp) ?_
  refine eqf_cons (by rfl) (by go_simp; rfl) (by go_simp; rfl) (by go_simp) ?_
  exact eqf_last (by rfl) (by go_simp; rfl) (by go_simp; rfl) (by go_simp)
attribute [local go_sem high] eq_rattr

theorem rcmd_cells {w : World} {g : Nat} {c : Cm} {bv : Value} (h : w.heap[g]? = some (.cells #[.int .i64 c.client, .int .i64 c.req, .int .i64 c.kind, .string c.queue, .int .i64 c.vis, .int .i64 c.ret, .int .i64 c.del, .int .i64 c.win, .int .i64 c.mx, .string c.dead, .bool c.fifo, .string c.body, .string c.group, .string c.key, .string c.receipt, bv, .int .i64 c.n, .int .i64 c.m] 37 (0, 0))) :
    w.cell? ⟨g, 0, none⟩ = some (.int .i64 c.client) ∧ w.cell? ⟨g, 1, none⟩ = some (.int .i64 c.req) ∧ w.cell? ⟨g, 2, none⟩ = some (.int .i64 c.kind) ∧ w.cell? ⟨g, 3, none⟩ = some (.string c.queue) ∧ w.cell? ⟨g, 4, none⟩ = some (.int .i64 c.vis) ∧ w.cell? ⟨g, 5, none⟩ = some (.int .i64 c.ret) ∧ w.cell? ⟨g, 6, none⟩ = some (.int .i64 c.del) ∧ w.cell? ⟨g, 7, none⟩ = some (.int .i64 c.win) ∧ w.cell? ⟨g, 8, none⟩ = some (.int .i64 c.mx) ∧ w.cell? ⟨g, 9, none⟩ = some (.string c.dead) ∧ w.cell? ⟨g, 10, none⟩ = some (.bool c.fifo) ∧ w.cell? ⟨g, 11, none⟩ = some (.string c.body) ∧ w.cell? ⟨g, 12, none⟩ = some (.string c.group) ∧ w.cell? ⟨g, 13, none⟩ = some (.string c.key) ∧ w.cell? ⟨g, 14, none⟩ = some (.string c.receipt) ∧ w.cell? ⟨g, 15, none⟩ = some (bv) ∧ w.cell? ⟨g, 16, none⟩ = some (.int .i64 c.n) ∧ w.cell? ⟨g, 17, none⟩ = some (.int .i64 c.m) := by
  have h1 := fun i => blk_cell h i
  exact ⟨(h1 _).trans rfl, (h1 _).trans rfl, (h1 _).trans rfl, (h1 _).trans rfl, (h1 _).trans rfl, (h1 _).trans rfl, (h1 _).trans rfl, (h1 _).trans rfl, (h1 _).trans rfl, (h1 _).trans rfl, (h1 _).trans rfl, (h1 _).trans rfl, (h1 _).trans rfl, (h1 _).trans rfl, (h1 _).trans rfl, (h1 _).trans rfl, (h1 _).trans rfl, (h1 _).trans rfl⟩

/-- The first k are the same. -/
def SameTo (x y : List ByteArray) (k : Nat) : Prop := x.take k = y.take k
theorem SameTo.next {x y : List ByteArray} {k : Nat} {s t : ByteArray} (h : SameTo x y k) (hx : x[k]? = some s) (hy : y[k]? = some t) (he : s.toList = t.toList) : SameTo x y (k + 1) := by
  unfold SameTo at h ⊢
  have hst : s = t := by
    rw [ByteArray.toList_eq, ByteArray.toList_eq] at he
    cases s; cases t; congr 1; exact Array.toList_inj.1 (by simpa using he)
  rw [List.take_add_one, List.take_add_one, h, hx, hy, hst]

set_option maxHeartbeats 8000000 in
set_option maxRecDepth 100000 in
theorem same_len (a b : Cm) (A B : Option Addr) (k m : Nat) (w : World) (hne : a.bodies.length ≠ b.bodies.length) :
    Calls Tryd.prog 18 #[.agg #[.int .i64 a.client, .int .i64 a.req, .int .i64 a.kind, .string a.queue, .int .i64 a.vis, .int .i64 a.ret, .int .i64 a.del, .int .i64 a.win, .int .i64 a.mx, .string a.dead, .bool a.fifo, .string a.body, .string a.group, .string a.key, .string a.receipt, .slice A a.bodies.length k, .int .i64 a.n, .int .i64 a.m], .agg #[.int .i64 b.client, .int .i64 b.req, .int .i64 b.kind, .string b.queue, .int .i64 b.vis, .int .i64 b.ret, .int .i64 b.del, .int .i64 b.win, .int .i64 b.mx, .string b.dead, .bool b.fifo, .string b.body, .string b.group, .string b.key, .string b.receipt, .slice B b.bodies.length m, .int .i64 b.n, .int .i64 b.m]] w fun e w' => e = .returned (.bool (sameCm a b)) ∧ Below w.heap.size w w' := by
  have hd : ((a.bodies.length : Int) != (b.bodies.length : Int)) = true := by rw [bne_iff_ne]; omega
  have HS : Hid (sameCm a b = false) := Lib.hid (by unfold sameCm; rw [decide_eq_false (fun e => hne (by rw [e]))]; rfl)
  clear hne
  go_enter Tryd.func18, Tryd.ntmps18
  go_wp2_with fail
  go_ret
  exact ⟨by rw [HS.out]; rfl, below_alloc (below_alloc (Below.refl _ _) _) _⟩

set_option maxHeartbeats 16000000 in
set_option maxRecDepth 100000 in
theorem same_any (a b : Cm) (A B : Option Addr) (kc m : Nat) (w : World) (hlen : a.bodies.length = b.bodies.length) (hA : Kd.string.C w A a.bodies.length a.bodies) (hB : Kd.string.C w B b.bodies.length b.bodies) :
    Calls Tryd.prog 18 #[.agg #[.int .i64 a.client, .int .i64 a.req, .int .i64 a.kind, .string a.queue, .int .i64 a.vis, .int .i64 a.ret, .int .i64 a.del, .int .i64 a.win, .int .i64 a.mx, .string a.dead, .bool a.fifo, .string a.body, .string a.group, .string a.key, .string a.receipt, .slice A a.bodies.length kc, .int .i64 a.n, .int .i64 a.m], .agg #[.int .i64 b.client, .int .i64 b.req, .int .i64 b.kind, .string b.queue, .int .i64 b.vis, .int .i64 b.ret, .int .i64 b.del, .int .i64 b.win, .int .i64 b.mx, .string b.dead, .bool b.fifo, .string b.body, .string b.group, .string b.key, .string b.receipt, .slice B b.bodies.length m, .int .i64 b.n, .int .i64 b.m]] w fun e w' => e = .returned (.bool (sameCm a b)) ∧ Below w.heap.size w w' := by
  have hd : ((a.bodies.length : Int) != (b.bodies.length : Int)) = false := by rw [hlen]; simp
  have HLEN := Lib.hid hlen
  have HA := Lib.hid (cells_C hA)
  have HB := Lib.hid (cells_C hB)
  have hl63 := Kd.C_max hA
  have HXa : Hid (((w.alloc (.cells #[.int .i64 a.client, .int .i64 a.req, .int .i64 a.kind, .string a.queue, .int .i64 a.vis, .int .i64 a.ret, .int .i64 a.del, .int .i64 a.win, .int .i64 a.mx, .string a.dead, .bool a.fifo, .string a.body, .string a.group, .string a.key, .string a.receipt, .slice A a.bodies.length kc, .int .i64 a.n, .int .i64 a.m] 37)).alloc (.cells #[.int .i64 b.client, .int .i64 b.req, .int .i64 b.kind, .string b.queue, .int .i64 b.vis, .int .i64 b.ret, .int .i64 b.del, .int .i64 b.win, .int .i64 b.mx, .string b.dead, .bool b.fifo, .string b.body, .string b.group, .string b.key, .string b.receipt, .slice B b.bodies.length m, .int .i64 b.n, .int .i64 b.m] 37)).heap[w.heap.size]? = some (.cells #[.int .i64 a.client, .int .i64 a.req, .int .i64 a.kind, .string a.queue, .int .i64 a.vis, .int .i64 a.ret, .int .i64 a.del, .int .i64 a.win, .int .i64 a.mx, .string a.dead, .bool a.fifo, .string a.body, .string a.group, .string a.key, .string a.receipt, .slice A a.bodies.length kc, .int .i64 a.n, .int .i64 a.m] 37 (0, 0))) := heap_alloc2_old w _ _
  have HXb : Hid (((w.alloc (.cells #[.int .i64 a.client, .int .i64 a.req, .int .i64 a.kind, .string a.queue, .int .i64 a.vis, .int .i64 a.ret, .int .i64 a.del, .int .i64 a.win, .int .i64 a.mx, .string a.dead, .bool a.fifo, .string a.body, .string a.group, .string a.key, .string a.receipt, .slice A a.bodies.length kc, .int .i64 a.n, .int .i64 a.m] 37)).alloc (.cells #[.int .i64 b.client, .int .i64 b.req, .int .i64 b.kind, .string b.queue, .int .i64 b.vis, .int .i64 b.ret, .int .i64 b.del, .int .i64 b.win, .int .i64 b.mx, .string b.dead, .bool b.fifo, .string b.body, .string b.group, .string b.key, .string b.receipt, .slice B b.bodies.length m, .int .i64 b.n, .int .i64 b.m] 37)).heap[w.heap.size + 1]? = some (.cells #[.int .i64 b.client, .int .i64 b.req, .int .i64 b.kind, .string b.queue, .int .i64 b.vis, .int .i64 b.ret, .int .i64 b.del, .int .i64 b.win, .int .i64 b.mx, .string b.dead, .bool b.fifo, .string b.body, .string b.group, .string b.key, .string b.receipt, .slice B b.bodies.length m, .int .i64 b.n, .int .i64 b.m] 37 (0, 0))) := heap_alloc2_new w _ _
  have HW := Lib.hid (below_alloc (below_alloc (Below.refl w.heap.size w) (.cells #[.int .i64 a.client, .int .i64 a.req, .int .i64 a.kind, .string a.queue, .int .i64 a.vis, .int .i64 a.ret, .int .i64 a.del, .int .i64 a.win, .int .i64 a.mx, .string a.dead, .bool a.fifo, .string a.body, .string a.group, .string a.key, .string a.receipt, .slice A a.bodies.length kc, .int .i64 a.n, .int .i64 a.m] 37)) (.cells #[.int .i64 b.client, .int .i64 b.req, .int .i64 b.kind, .string b.queue, .int .i64 b.vis, .int .i64 b.ret, .int .i64 b.del, .int .i64 b.win, .int .i64 b.mx, .string b.dead, .bool b.fifo, .string b.body, .string b.group, .string b.key, .string b.receipt, .slice B b.bodies.length m, .int .i64 b.n, .int .i64 b.m] 37))
  clear hA hB hlen
  go_enter Tryd.func18, Tryd.ntmps18
  go_wp2_with fail
  generalize (w.alloc (.cells #[.int .i64 a.client, .int .i64 a.req, .int .i64 a.kind, .string a.queue, .int .i64 a.vis, .int .i64 a.ret, .int .i64 a.del, .int .i64 a.win, .int .i64 a.mx, .string a.dead, .bool a.fifo, .string a.body, .string a.group, .string a.key, .string a.receipt, .slice A a.bodies.length kc, .int .i64 a.n, .int .i64 a.m] 37)).alloc (.cells #[.int .i64 b.client, .int .i64 b.req, .int .i64 b.kind, .string b.queue, .int .i64 b.vis, .int .i64 b.ret, .int .i64 b.del, .int .i64 b.win, .int .i64 b.mx, .string b.dead, .bool b.fifo, .string b.body, .string b.group, .string b.key, .string b.receipt, .slice B b.bodies.length m, .int .i64 b.n, .int .i64 b.m] 37) = w1 at HXa HXb HW ⊢
  clear hd
  obtain ⟨g1, hg1⟩ : ∃ g1, w.heap.size = g1 := ⟨_, rfl⟩
  obtain ⟨g2, hg2⟩ : ∃ g2, w.heap.size + 1 = g2 := ⟨_, rfl⟩
  rw [hg2] at HXb ⊢
  rw [hg1] at HXa ⊢
  have HG1 := Lib.hid hg1
  clear hg2 hg1
  go_loopw [17] (fun i wr => ∃ k : Nat, k ≤ a.bodies.length ∧ i = .int .i64 k ∧ Hid (SameTo a.bodies b.bodies k) ∧ Hid (Below w1.heap.size w1 wr)) (fun i _ => a.bodies.length - (intOf i).toNat)
  case atStart => exact ⟨0, by omega, rfl, Lib.hid rfl, Lib.hid (Below.refl _ _)⟩
  case round =>
    obtain ⟨k, hk, rfl, HS, HV⟩ := hrel
    have HXa2 := Lib.hid ((HV.out.block g1 (blk_lt HXa.out)).trans HXa.out)
    have HXb2 := Lib.hid ((HV.out.block g2 (blk_lt HXb.out)).trans HXb.out)
    have HWV := Lib.hid (HW.out.trans (HV.out.mono HW.out.size))
    by_cases hlt : k < a.bodies.length
    · obtain ⟨ad, x, rfl, hcx, hx⟩ := cells_at HA.out HWV.out (k := k) (by rw [List.length_map]; exact hlt)
      obtain ⟨bd, y, rfl, hcy, hy⟩ := cells_at HB.out HWV.out (k := k) (by rw [List.length_map, ← HLEN.out]; exact hlt)
      rw [List.getElem?_map, Option.map_eq_some_iff] at hx hy
      obtain ⟨s, hx, rfl⟩ := hx
      obtain ⟨t, hy, rfl⟩ := hy
      have HXk := Lib.hid hx
      have HYk := Lib.hid hy
      have hltb : (k : Int) < (b.bodies.length : Int) := by have := HLEN.out; omega
      have hlta : (k : Int) < (a.bodies.length : Int) := by omega
      have z1 : wr.cell? ⟨g1, 15, none⟩ = some (.slice (some ad) a.bodies.length kc) := (blk_cell HXa2.out 15).trans rfl
      have z2 : wr.cell? ⟨g2, 15, none⟩ = some (.slice (some bd) b.bodies.length m) := (blk_cell HXb2.out 15).trans rfl
      clear hx hy
      cases hst : (s.toList == t.toList) with
      | true =>
        go_wp2_with fail
        go_quiet (fail)
        go_wp2_with fail
        go_roundw
        case rel => exact ⟨k + 1, by omega, by go_num, Lib.hid (HS.out.next HXk.out HYk.out (eq_of_beq hst)), Lib.hid (HV.out.trans (pw_below_drewN (Below.refl _ _) _))⟩
        case measure => simp only [intOf]; omega
      | false =>
        go_wp2_with fail
        go_quiet (fail)
        go_wp2_with fail
        have HN : Hid (sameCm a b = false) := Lib.hid (by
          unfold sameCm
          rw [decide_eq_false, Bool.false_and]
          intro e
          have h1 := HXk.out
          rw [e, HYk.out] at h1
          cases h1
          simp at hst)
        go_ret
        exact ⟨by rw [HN.out]; rfl, HWV.out.trans (pw_below_drewN (Below.refl _ _) _)⟩
    · have hke : k = a.bodies.length := by omega
      have hlen := HLEN.out
      have hbd : a.bodies = b.bodies := by
        have h1 := HS.out
        unfold SameTo at h1
        rwa [hke, List.take_length, hlen, List.take_length] at h1
      have HBD := Lib.hid hbd
      clear hbd hlen
      subst hke
      have hge : decide ((a.bodies.length : Int) < (a.bodies.length : Int)) = false := decide_eq_false (by omega)
      have HV2 : Hid (Below w.heap.size w wr) := HWV
      have ca := rcmd_cells HXa2.out
      have cb := rcmd_cells HXb2.out
      obtain ⟨a0, a1, a2, a3, a4, a5, a6, a7, a8, a9, a10, a11, a12, a13, a14, a15, a16, a17⟩ := ca
      obtain ⟨b0, b1, b2, b3, b4, b5, b6, b7, b8, b9, b10, b11, b12, b13, b14, b15, b16, b17⟩ := cb
      clear HXa HXb HXa2 HXb2 HLEN HA HB HW HV HWV HG1 hk hl63
      go_wp2_with fail
      all_goals go_ret
      all_goals refine ⟨?_, HV2.out⟩
      all_goals clear a0 a1 a2 a3 a4 a5 a6 a7 a8 a9 a10 a11 a12 a13 a14 a15 a16 a17 b0 b1 b2 b3 b4 b5 b6 b7 b8 b9 b10 b11 b12 b13 b14 b15 b16 b17
      all_goals refine congrArg (fun x => Ending.returned (Value.bool x)) ?_
      all_goals unfold sameCm sameNum sameTxt sameAt
      all_goals rw [decide_eq_true HBD.out]
      all_goals clear HBD HS HV2 hlt hge
      all_goals simp only [*, Bool.true_and, Bool.and_true, Bool.false_and, Bool.and_false, beq_self_eq_true]
      all_goals simp_all

theorem str_of_list {s t : ByteArray} (he : s.toList = t.toList) : s = t := by
  rw [ByteArray.toList_eq, ByteArray.toList_eq] at he
  cases s; cases t; congr 1; exact Array.toList_inj.1 (by simpa using he)

/-- sameCm is equality. -/
theorem sameCm_iff (a b : Cm) : sameCm a b = true ↔ a = b := by
  constructor
  · intro h
    unfold sameCm sameNum sameTxt sameAt at h
    simp only [Bool.and_eq_true, decide_eq_true_eq, beq_iff_eq] at h
    cases a; cases b
    simp_all
    refine ⟨?_, ?_, ?_, ?_, ?_, ?_⟩ <;> exact str_of_list (by simp_all)
  · rintro rfl
    unfold sameCm sameNum sameTxt sameAt
    simp

/-- SameCmd, whatever the lengths. -/
theorem same_cmd (a b : Cm) (A B : Option Addr) (kc m : Nat) (w : World) (hA : Kd.string.C w A a.bodies.length a.bodies) (hB : Kd.string.C w B b.bodies.length b.bodies) :
    Calls Tryd.prog 18 #[.agg #[.int .i64 a.client, .int .i64 a.req, .int .i64 a.kind, .string a.queue, .int .i64 a.vis, .int .i64 a.ret, .int .i64 a.del, .int .i64 a.win, .int .i64 a.mx, .string a.dead, .bool a.fifo, .string a.body, .string a.group, .string a.key, .string a.receipt, .slice A a.bodies.length kc, .int .i64 a.n, .int .i64 a.m], .agg #[.int .i64 b.client, .int .i64 b.req, .int .i64 b.kind, .string b.queue, .int .i64 b.vis, .int .i64 b.ret, .int .i64 b.del, .int .i64 b.win, .int .i64 b.mx, .string b.dead, .bool b.fifo, .string b.body, .string b.group, .string b.key, .string b.receipt, .slice B b.bodies.length m, .int .i64 b.n, .int .i64 b.m]] w fun e w' => e = .returned (.bool (sameCm a b)) ∧ Below w.heap.size w w' := by
  by_cases h : a.bodies.length = b.bodies.length
  · exact same_any a b A B kc m w h hA hB
  · exact same_len a b A B kc m w h

end Go.Proofs.YtlgippliihgcjaaDoor.C
