/- CmdApart. -/
import Derived.Test.YtlgippliihgcjaaC6
import Derived.Test.YtlgippliihgcjaaR8
import Derived.Test.YtlgippliihgcjaaP1
import Derived.Test.YtlgippliihgcjaaL1
import Derived.Test.YtlgippliihgcjaaL2
import Derived.Test.YtlgippliihgcjaaF1
import Derived.Test.YtlgippliihgcjaaR9
import Derived.Deep.RegionHeld3
namespace Go.Proofs.Ytlgippliihgcjaa.C
set_option linter.unusedVariables false
set_option linter.unusedSimpArgs false
open Go.RowKit Go.Proofs.YtlgippliihgcjaaW.PrintWords Go.Proofs.YtlgippliihgcjaaW.PrintLast

section
variable {P : Program} {ops : Array Oper} {rest : List Oper} {o : Oper} {a : Act} {Q : Exit → Act → World → Prop}
theorem slice_event {W : World} (hgd : o.guard = none) {N : Tmp} (_hd : o.dst = some N) {cs : Array Value} {t : TypeId} (n : Nat)
    (hrun : (execOp a.eval o).run P W = .ok (.value (.slice (some ⟨W.heap.size, 0, none⟩) n n)) (W.alloc (.cells cs t (0, 0))))
    (h : ∀ g, g = W.heap.size → ∀ w1, w1.heap[g]? = some (.cells cs t (0, 0)) → Below W.heap.size W w1 → wpList P ops Q rest (a.put o.dst (.slice (some ⟨g, 0, none⟩) n n)) w1) : wpList P ops Q (o :: rest) a W :=
  Kd.event_run hgd hrun (h _ rfl _ (blk_new W _) (below_alloc (Below.refl _ _) _))
end

/-- A command is loaded. -/
def ldC (x : Value) : Sem Value := Instr.loadAt 26 x
theorem loadAt_ldC (x : Value) : Instr.loadAt 26 x = ldC x := rfl
theorem ldC_of {w : World} {g : Nat} {c : Cm} {bv : Value} (h : w.heap[g]? = some (.cells #[.int .i64 c.client, .int .i64 c.req, .int .i64 c.kind, .string c.queue, .int .i64 c.vis, .int .i64 c.ret, .int .i64 c.del, .int .i64 c.win, .int .i64 c.mx, .string c.dead, .bool c.fifo, .string c.body, .string c.group, .string c.key, .string c.receipt, bv, .int .i64 c.n, .int .i64 c.m] 26 (0, 0))) :
    (ldC (.pointer (some ⟨g, 0, none⟩))).run Try.prog w = .ok (.agg #[.int .i64 c.client, .int .i64 c.req, .int .i64 c.kind, .string c.queue, .int .i64 c.vis, .int .i64 c.ret, .int .i64 c.del, .int .i64 c.win, .int .i64 c.mx, .string c.dead, .bool c.fifo, .string c.body, .string c.group, .string c.key, .string c.receipt, bv, .int .i64 c.n, .int .i64 c.m]) w := by
  have hi : (Try.prog.info? 26).map (·.size) = some (#[.int .i64 c.client, .int .i64 c.req, .int .i64 c.kind, .string c.queue, .int .i64 c.vis, .int .i64 c.ret, .int .i64 c.del, .int .i64 c.win, .int .i64 c.mx, .string c.dead, .bool c.fifo, .string c.body, .string c.group, .string c.key, .string c.receipt, bv, .int .i64 c.n, .int .i64 c.m] : Array Value).size := by kernel_rfl
  unfold ldC
  simp only [Instr.loadAt, Instr.sureAddr, Sem.run_bind, Sem.run_pure, Result.andThen_ok, run_loadVar_row w g 26 26 _ (0, 0) _ h Try.underlying26 rfl hi]
attribute [local go_sem ↓] loadAt_ldC

theorem write_some (c : Cm) (A : Option Addr) (k : Nat) (w : World) (hC : Kd.string.C w A c.bodies.length c.bodies) :
    Calls Try.prog 6 #[.agg #[.int .i64 c.client, .int .i64 c.req, .int .i64 c.kind, .string c.queue, .int .i64 c.vis, .int .i64 c.ret, .int .i64 c.del, .int .i64 c.win, .int .i64 c.mx, .string c.dead, .bool c.fifo, .string c.body, .string c.group, .string c.key, .string c.receipt, .slice A c.bodies.length k, .int .i64 c.n, .int .i64 c.m]] w fun e w' => (∃ v ev, e = .returned (.tuple #[v, ev])) ∧ Below w.heap.size w w' := by
  cases hr : right c with
  | true => exact (write_yes c A k w hC hr).mono fun e w' ⟨v, h1, _, h3⟩ => ⟨⟨v, _, h1⟩, h3⟩
  | false => exact (write_no c A k w hC hr).mono fun e w' ⟨v, h1, _, h3⟩ => ⟨⟨_, v, h1⟩, h3⟩

theorem two_range {w : World} {g : Nat} {a b : Cm} {va vb : Value} {t : TypeId} (h : w.heap[g]? = some (.cells (([.int .i64 a.client, .int .i64 a.req, .int .i64 a.kind, .string a.queue, .int .i64 a.vis, .int .i64 a.ret, .int .i64 a.del, .int .i64 a.win, .int .i64 a.mx, .string a.dead, .bool a.fifo, .string a.body, .string a.group, .string a.key, .string a.receipt, va, .int .i64 a.n, .int .i64 a.m] : List Value) ++ ([.int .i64 b.client, .int .i64 b.req, .int .i64 b.kind, .string b.queue, .int .i64 b.vis, .int .i64 b.ret, .int .i64 b.del, .int .i64 b.win, .int .i64 b.mx, .string b.dead, .bool b.fifo, .string b.body, .string b.group, .string b.key, .string b.receipt, vb, .int .i64 b.n, .int .i64 b.m] : List Value)).toArray t (0, 0))) : w.rangeAt g 0 (CellsOf [(a, va), (b, vb)]) := fun j v hj => by
  rw [Nat.zero_add]
  refine (blk_cell h j).trans ?_
  rw [← Array.getElem?_toList]
  exact hj

set_option maxHeartbeats 16000000 in
set_option maxRecDepth 100000 in
theorem apart_any (hawake : ∀ w : World, Calls Try.prog 5 #[] w fun e w' => e = .returned (.bool true) ∧ Below w.heap.size w w') (a b : Cm) (A B : Option Addr) (ka kb : Nat) (w : World) (hA : Kd.string.C w A a.bodies.length a.bodies) (hB : Kd.string.C w B b.bodies.length b.bodies) :
    Calls Try.prog 3 #[.agg #[.int .i64 a.client, .int .i64 a.req, .int .i64 a.kind, .string a.queue, .int .i64 a.vis, .int .i64 a.ret, .int .i64 a.del, .int .i64 a.win, .int .i64 a.mx, .string a.dead, .bool a.fifo, .string a.body, .string a.group, .string a.key, .string a.receipt, .slice A a.bodies.length ka, .int .i64 a.n, .int .i64 a.m], .agg #[.int .i64 b.client, .int .i64 b.req, .int .i64 b.kind, .string b.queue, .int .i64 b.vis, .int .i64 b.ret, .int .i64 b.del, .int .i64 b.win, .int .i64 b.mx, .string b.dead, .bool b.fifo, .string b.body, .string b.group, .string b.key, .string b.receipt, .slice B b.bodies.length kb, .int .i64 b.n, .int .i64 b.m]] w fun e w' => e = .returned (.bool true) ∧ Below w.heap.size w w' := by
  have HA := Lib.hid hA
  have HB := Lib.hid hB
  clear hA hB
  go_enter Try.func3, Try.ntmps3
  go_wp2_with (first
    | ((with_reducible refine gate_dst (N := 2) rfl ?_); refine box_event ?hg (N := 2) ?hd (cs := #[.int .i64 a.client, .int .i64 a.req, .int .i64 a.kind, .string a.queue, .int .i64 a.vis, .int .i64 a.ret, .int .i64 a.del, .int .i64 a.win, .int .i64 a.mx, .string a.dead, .bool a.fifo, .string a.body, .string a.group, .string a.key, .string a.receipt, .slice A a.bodies.length ka, .int .i64 a.n, .int .i64 a.m]) (t := 26) ?hr ?_; (case hd => rfl); (case hg => rfl); (case hr => first | (go_simp; done) | (go_simp; rfl)); intro g2 hg2 w2 hbox2 hb2; have HG2 := Lib.hid hg2; have HB2 := Lib.hid hb2; have HX2 := Lib.hid hbox2; clear hg2 hbox2 hb2)
    | ((with_reducible refine gate_dst (N := 3) rfl ?_); refine box_event ?hg (N := 3) ?hd (cs := #[.int .i64 b.client, .int .i64 b.req, .int .i64 b.kind, .string b.queue, .int .i64 b.vis, .int .i64 b.ret, .int .i64 b.del, .int .i64 b.win, .int .i64 b.mx, .string b.dead, .bool b.fifo, .string b.body, .string b.group, .string b.key, .string b.receipt, .slice B b.bodies.length kb, .int .i64 b.n, .int .i64 b.m]) (t := 26) ?hr ?_; (case hd => rfl); (case hg => rfl); (case hr => first | (go_simp; done) | (go_simp; rfl)); intro g3 hg3 w3 hbox3 hb3; have HG3 := Lib.hid hg3; have HB3 := Lib.hid hb3; have HX3 := Lib.hid hbox3; clear hg3 hbox3 hb3; have HX2_ := Lib.hid ((HB3.out.block g2 (blk_lt HX2.out)).trans HX2.out))
    | ((with_reducible refine gate_dst (N := 9) rfl ?_); refine wpList_load_row rfl 26 (.tmp 2) rfl g2 rfl 26 #[.int .i64 a.client, .int .i64 a.req, .int .i64 a.kind, .string a.queue, .int .i64 a.vis, .int .i64 a.ret, .int .i64 a.del, .int .i64 a.win, .int .i64 a.mx, .string a.dead, .bool a.fifo, .string a.body, .string a.group, .string a.key, .string a.receipt, .slice A a.bodies.length ka, .int .i64 a.n, .int .i64 a.m] (0, 0) _ HX2_.out Try.underlying26 rfl (by kernel_rfl) ?_)
    | ((with_reducible refine gate_dst (N := 10) rfl ?_); refine wpList_load_row rfl 26 (.tmp 3) rfl g3 rfl 26 #[.int .i64 b.client, .int .i64 b.req, .int .i64 b.kind, .string b.queue, .int .i64 b.vis, .int .i64 b.ret, .int .i64 b.del, .int .i64 b.win, .int .i64 b.mx, .string b.dead, .bool b.fifo, .string b.body, .string b.group, .string b.key, .string b.receipt, .slice B b.bodies.length kb, .int .i64 b.n, .int .i64 b.m] (0, 0) _ HX3.out Try.underlying26 rfl (by kernel_rfl) ?_)
    | ((with_reducible refine gate_dst (N := 11) rfl ?_); refine slice_event ?hg (N := 11) ?hd (cs := (([.int .i64 a.client, .int .i64 a.req, .int .i64 a.kind, .string a.queue, .int .i64 a.vis, .int .i64 a.ret, .int .i64 a.del, .int .i64 a.win, .int .i64 a.mx, .string a.dead, .bool a.fifo, .string a.body, .string a.group, .string a.key, .string a.receipt, .slice A a.bodies.length ka, .int .i64 a.n, .int .i64 a.m] : List Value) ++ ([.int .i64 b.client, .int .i64 b.req, .int .i64 b.kind, .string b.queue, .int .i64 b.vis, .int .i64 b.ret, .int .i64 b.del, .int .i64 b.win, .int .i64 b.mx, .string b.dead, .bool b.fifo, .string b.body, .string b.group, .string b.key, .string b.receipt, .slice B b.bodies.length kb, .int .i64 b.n, .int .i64 b.m] : List Value)).toArray) (t := 26) 2 ?hr ?_; (case hd => rfl); (case hg => rfl); (case hr => first | (go_simp; done) | (go_simp; rfl)); intro g4 hg4 w4 hbox4 hb4; have HG4 := Lib.hid hg4; have HB4 := Lib.hid hb4; have HX4 := Lib.hid hbox4; clear hg4 hbox4 hb4))
  have hfew := few_any [(a, .slice A a.bodies.length ka), (b, .slice B b.bodies.length kb)] g4 2 w4 (two_range HX4.out) (by
    intro c bv h
    have hA4 := Kd.C_below (Kd.C_below (Kd.C_below HA.out HB2.out) HB3.out) HB4.out
    have hB4 := Kd.C_below (Kd.C_below (Kd.C_below HB.out HB2.out) HB3.out) HB4.out
    simp only [List.mem_cons, List.not_mem_nil, or_false, Prod.mk.injEq] at h
    rcases h with ⟨rfl, rfl⟩ | ⟨rfl, rfl⟩
    · exact ⟨A, ka, rfl, hA4⟩
    · exact ⟨B, kb, rfl, hB4⟩)
  refine hfew.mono ?_
  clear hfew
  rintro e w5 ⟨⟨q, rfl⟩, hb5⟩
  have HBB := Lib.hid (((HB2.out.trans (HB3.out.mono HB2.out.size)).trans (HB4.out.mono (Nat.le_trans HB2.out.size HB3.out.size))).trans (hb5.mono (Nat.le_trans (Nat.le_trans HB2.out.size HB3.out.size) HB4.out.size)))
  have HXa := Lib.hid ((hb5.block g2 (Nat.lt_of_lt_of_le (blk_lt HX2_.out) HB4.out.size)).trans ((HB4.out.block g2 (blk_lt HX2_.out)).trans HX2_.out))
  have HXb := Lib.hid ((hb5.block g3 (Nat.lt_of_lt_of_le (blk_lt HX3.out) HB4.out.size)).trans ((HB4.out.block g3 (blk_lt HX3.out)).trans HX3.out))
  have HA5 := Lib.hid (Kd.C_below HA.out HBB.out)
  have HB5 := Lib.hid (Kd.C_below HB.out HBB.out)
  clear hb5 HA HB HX2 HX2_ HX3 HX4 HB2 HB3 HB4 HG2 HG3 HG4
  have HAW := Lib.hid hawake
  clear hawake
  cases q with
  | false =>
    go_wp2_with fail
    refine (HAW.out _).mono ?_
    rintro e w6 ⟨rfl, hb6⟩
    have HB6 := Lib.hid (HBB.out.trans (hb6.mono HBB.out.size))
    clear hb6
    go_wp2_with fail
    go_ret
    exact ⟨rfl, HB6.out⟩
  | true =>
    go_wp2_with ((with_reducible refine gate_dst (N := 16) rfl ?_); refine wpList_load_row rfl 26 (.tmp 2) rfl g2 rfl 26 #[.int .i64 a.client, .int .i64 a.req, .int .i64 a.kind, .string a.queue, .int .i64 a.vis, .int .i64 a.ret, .int .i64 a.del, .int .i64 a.win, .int .i64 a.mx, .string a.dead, .bool a.fifo, .string a.body, .string a.group, .string a.key, .string a.receipt, .slice A a.bodies.length ka, .int .i64 a.n, .int .i64 a.m] (0, 0) _ HXa.out Try.underlying26 rfl (by kernel_rfl) ?_)
    cases hra : right a with
    | false =>
      refine (write_no a A ka _ HA5.out hra).mono ?_
      rintro e w6 ⟨v, rfl, ⟨be, rfl, _, _⟩, hb6⟩
      have HB6 := Lib.hid (HBB.out.trans (hb6.mono HBB.out.size))
      have HXb6 := Lib.hid ((hb6.block g3 (blk_lt HXb.out)).trans HXb.out)
      have HC6 := Lib.hid (Kd.C_below HB5.out hb6)
      clear hb6 HXa HXb HA5 HB5 HBB hra
      go_wp2_with ((with_reducible refine gate_dst (N := 21) rfl ?_); refine wpList_load_row rfl 26 (.tmp 3) rfl g3 rfl 26 #[.int .i64 b.client, .int .i64 b.req, .int .i64 b.kind, .string b.queue, .int .i64 b.vis, .int .i64 b.ret, .int .i64 b.del, .int .i64 b.win, .int .i64 b.mx, .string b.dead, .bool b.fifo, .string b.body, .string b.group, .string b.key, .string b.receipt, .slice B b.bodies.length kb, .int .i64 b.n, .int .i64 b.m] (0, 0) _ HXb6.out Try.underlying26 rfl (by kernel_rfl) ?_)
      refine (write_some b B kb _ HC6.out).mono ?_
      rintro e w7 ⟨⟨v2, ev2, rfl⟩, hb7⟩
      have HB7 := Lib.hid (HB6.out.trans (hb7.mono HB6.out.size))
      clear hb7 HC6 HB6 HXb6
      go_wp2_with fail
      refine (HAW.out _).mono ?_
      rintro e w8 ⟨rfl, hb8⟩
      have HB8 := Lib.hid (HB7.out.trans (hb8.mono HB7.out.size))
      clear hb8
      go_wp2_with fail
      go_ret
      exact ⟨rfl, HB8.out⟩
    | true =>
      refine (write_yes a A ka _ HA5.out hra).mono ?_
      rintro e w6 ⟨v, rfl, ho6, hb6⟩
      obtain ⟨A6, k6, rfl, _, hr6⟩ := ho6.form
      have HO6 := Lib.hid hr6
      have HB6 := Lib.hid (HBB.out.trans (hb6.mono HBB.out.size))
      have HXa6 := Lib.hid ((hb6.block g2 (blk_lt HXa.out)).trans HXa.out)
      have HXb6 := Lib.hid ((hb6.block g3 (blk_lt HXb.out)).trans HXb.out)
      have HA6 := Lib.hid (Kd.C_below HA5.out hb6)
      have HC6 := Lib.hid (Kd.C_below HB5.out hb6)
      have HRA := Lib.hid hra
      clear hb6 HXa HXb HA5 HB5 HBB hra ho6 hr6
      go_wp2_with ((with_reducible refine gate_dst (N := 21) rfl ?_); refine wpList_load_row rfl 26 (.tmp 3) rfl g3 rfl 26 #[.int .i64 b.client, .int .i64 b.req, .int .i64 b.kind, .string b.queue, .int .i64 b.vis, .int .i64 b.ret, .int .i64 b.del, .int .i64 b.win, .int .i64 b.mx, .string b.dead, .bool b.fifo, .string b.body, .string b.group, .string b.key, .string b.receipt, .slice B b.bodies.length kb, .int .i64 b.n, .int .i64 b.m] (0, 0) _ HXb6.out Try.underlying26 rfl (by kernel_rfl) ?_)
      cases hrb : right b with
      | false =>
        refine (write_no b B kb _ HC6.out hrb).mono ?_
        rintro e w7 ⟨v2, rfl, ⟨be, rfl, _, _⟩, hb7⟩
        have HB7 := Lib.hid (HB6.out.trans (hb7.mono HB6.out.size))
        clear hb7 HC6 HB6 HXb6
        go_wp2_with fail
        refine (HAW.out _).mono ?_
        rintro e w8 ⟨rfl, hb8⟩
        have HB8 := Lib.hid (HB7.out.trans (hb8.mono HB7.out.size))
        clear hb8
        go_wp2_with fail
        go_ret
        exact ⟨rfl, HB8.out⟩
      | true =>
        refine (write_yes b B kb _ HC6.out hrb).mono ?_
        rintro e w7 ⟨v, rfl, ho7, hb7⟩
        obtain ⟨A7, k7, rfl, _, hr7⟩ := ho7.form
        have HO7 := Lib.hid hr7
        have HO67 := Lib.hid (HO6.out.below hb7)
        have HB7 := Lib.hid (HB6.out.trans (hb7.mono HB6.out.size))
        have HXa7 := Lib.hid ((hb7.block g2 (blk_lt HXa6.out)).trans HXa6.out)
        have HXb7 := Lib.hid ((hb7.block g3 (blk_lt HXb6.out)).trans HXb6.out)
        have HA7 := Lib.hid (Kd.C_below HA6.out hb7)
        have HC7 := Lib.hid (Kd.C_below HC6.out hb7)
        have HRB := Lib.hid hrb
        clear hb7 HXa6 HXb6 HA6 HC6 HB6 hrb ho7 hr7 HO6
        go_wp2_with fail
        have hD : decide (encB a = encB b) = sameCm a b := by
          rw [Bool.eq_iff_iff, decide_eq_true_iff, encB_inj HRA.out HRB.out, sameCm_iff]
        have HD := Lib.hid hD
        have hdr := below_drew1 (Below.refl w7.heap.size w7)
        have l0 := ldC_of ((hdr.block g2 (blk_lt HXa7.out)).trans HXa7.out)
        have m0 := ldC_of ((hdr.block g3 (blk_lt HXb7.out)).trans HXb7.out)
        clear hD hdr
        go_region_held3 (fun w' => (ldC (.pointer (some ⟨g2, 0, none⟩))).run Try.prog w' = .ok (.agg #[.int .i64 a.client, .int .i64 a.req, .int .i64 a.kind, .string a.queue, .int .i64 a.vis, .int .i64 a.ret, .int .i64 a.del, .int .i64 a.win, .int .i64 a.mx, .string a.dead, .bool a.fifo, .string a.body, .string a.group, .string a.key, .string a.receipt, .slice A a.bodies.length ka, .int .i64 a.n, .int .i64 a.m]) w' ∧ (ldC (.pointer (some ⟨g3, 0, none⟩))).run Try.prog w' = .ok (.agg #[.int .i64 b.client, .int .i64 b.req, .int .i64 b.kind, .string b.queue, .int .i64 b.vis, .int .i64 b.ret, .int .i64 b.del, .int .i64 b.win, .int .i64 b.mx, .string b.dead, .bool b.fifo, .string b.body, .string b.group, .string b.key, .string b.receipt, .slice B b.bodies.length kb, .int .i64 b.n, .int .i64 b.m]) w')
          (first
            | exact ⟨l4, m4⟩
            | exact ⟨l3, m3⟩
            | exact ⟨l2, m2⟩
            | exact ⟨l1, m1⟩
            | exact ⟨l0, m0⟩)
          (first
            | (go_at_call 7; refine (bEq_any A6 A7 k6 k7 (encB a) (encB b) _ (HO67.out.below (below_drew1 (Below.refl _ _))) (HO7.out.below (below_drew1 (Below.refl _ _))) (fun x hx => encB_bytes _ x hx) (fun x hx => encB_bytes _ x hx)).mono ?_; rintro e w8 ⟨rfl, rfl⟩; rw [HD.out])
            | (go_at_call_of 9 (Value.agg #[.int .i64 a.client, .int .i64 a.req, .int .i64 a.kind, .string a.queue, .int .i64 a.vis, .int .i64 a.ret, .int .i64 a.del, .int .i64 a.win, .int .i64 a.mx, .string a.dead, .bool a.fifo, .string a.body, .string a.group, .string a.key, .string a.receipt, .slice A a.bodies.length ka, .int .i64 a.n, .int .i64 a.m]); refine (lcmd_any a A ka _).mono ?_; rintro e w9 ⟨rfl, hb9⟩; have HB9 := Lib.hid ((below_drew1 HB7.out).trans (hb9.mono (below_drew1 HB7.out).size)); have HQ9 := Lib.hid ((below_drew1 (Below.refl w7.heap.size w7)).trans hb9); have HXa9 := Lib.hid ((HQ9.out.block g2 (blk_lt HXa7.out)).trans HXa7.out); have HXb9 := Lib.hid ((HQ9.out.block g3 (blk_lt HXb7.out)).trans HXb7.out); have HA9 := Lib.hid (Kd.C_below HA7.out HQ9.out); have HC9 := Lib.hid (Kd.C_below HC7.out HQ9.out); have l1 := ldC_of HXa9.out; have m1 := ldC_of HXb9.out; clear hb9 HQ9)
            | (go_at_call_of 9 (Value.agg #[.int .i64 b.client, .int .i64 b.req, .int .i64 b.kind, .string b.queue, .int .i64 b.vis, .int .i64 b.ret, .int .i64 b.del, .int .i64 b.win, .int .i64 b.mx, .string b.dead, .bool b.fifo, .string b.body, .string b.group, .string b.key, .string b.receipt, .slice B b.bodies.length kb, .int .i64 b.n, .int .i64 b.m]); refine (lcmd_any b B kb _).mono ?_; rintro e w10 ⟨rfl, hb10⟩; have HB10 := Lib.hid (HB9.out.trans (hb10.mono HB9.out.size)); have HXa10 := Lib.hid ((hb10.block g2 (blk_lt HXa9.out)).trans HXa9.out); have HXb10 := Lib.hid ((hb10.block g3 (blk_lt HXb9.out)).trans HXb9.out); have HA10 := Lib.hid (Kd.C_below HA9.out hb10); have HC10 := Lib.hid (Kd.C_below HC9.out hb10); have l2 := ldC_of HXa10.out; have m2 := ldC_of HXb10.out; clear hb10)
            | (go_at_call 8; refine (same_cmd a b A B ka kb _ HA10.out HC10.out).mono ?_; rintro e w11 ⟨rfl, hb11⟩; have HB11 := Lib.hid (HB10.out.trans (hb11.mono HB10.out.size)); have HXa11 := Lib.hid ((hb11.block g2 (blk_lt HXa10.out)).trans HXa10.out); have HXb11 := Lib.hid ((hb11.block g3 (blk_lt HXb10.out)).trans HXb10.out); have l3 := ldC_of HXa11.out; have m3 := ldC_of HXb11.out; clear hb11)
            | (go_at_call 5; refine (HAW.out _).mono ?_; rintro e w12 ⟨rfl, hb12⟩; have HB12 := Lib.hid (HB11.out.trans (hb12.mono HB11.out.size)); have HXa12 := Lib.hid ((hb12.block g2 (blk_lt HXa11.out)).trans HXa11.out); have HXb12 := Lib.hid ((hb12.block g3 (blk_lt HXb11.out)).trans HXb11.out); have l4 := ldC_of HXa12.out; have m4 := ldC_of HXb12.out; clear hb12))
        go_wp2_with fail
        go_ret
        exact ⟨rfl, HB12.out⟩

end Go.Proofs.Ytlgippliihgcjaa.C
