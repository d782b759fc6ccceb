/- CmdWrites. -/
import Derived.Test.YtlgippliihgcjaaDoorL5
import Derived.Test.YtlgippliihgcjaaDoorF1
namespace Go.Proofs.YtlgippliihgcjaaDoor.C
set_option linter.unusedVariables false
set_option linter.unusedSimpArgs false
open Go.RowKit Go.Proofs.YtlgippliihgcjaaDoorW.PrintWords Go.Proofs.YtlgippliihgcjaaDoorW.PrintLast

/-- The attributes of a command are loaded. -/
def ldQ (x : Value) : Sem Value := Instr.loadAt 23 x
theorem loadAt_ldQ (x : Value) : Instr.loadAt 23 x = ldQ x := rfl
def ldP (x : Value) : Sem Value := Instr.loadAt 35 x
theorem loadAt_ldP (x : Value) : Instr.loadAt 35 x = ldP x := rfl
def atC (c : Cm) : List Value := [.int .i64 c.vis, .int .i64 c.ret, .int .i64 c.del, .int .i64 c.win, .int .i64 c.mx, .string c.dead, .bool c.fifo]
theorem at_range {w : World} {g : Nat} {c : Cm} {bv : Value} {t : TypeId} (h : w.heap[g]? = some (.cells #[.int .i64 c.client, .int .i64 c.req, .int .i64 c.kind, .string c.queue, .int .i64 c.vis, .int .i64 c.ret, .int .i64 c.del, .int .i64 c.win, .int .i64 c.mx, .string c.dead, .bool c.fifo, .string c.body, .string c.group, .string c.key, .string c.receipt, bv, .int .i64 c.n, .int .i64 c.m] t (0, 0))) : w.rangeAt g 4 (atC c) := fun j v hj => by
  have hl : j < 7 := (List.getElem?_eq_some_iff.1 hj).1
  have h2 := fun i => blk_cell h i
  have : j = 0 ∨ j = 1 ∨ j = 2 ∨ j = 3 ∨ j = 4 ∨ j = 5 ∨ j = 6 := by omega
  rcases this with rfl | rfl | rfl | rfl | rfl | rfl | rfl <;> exact (h2 _).trans hj
theorem ldQ_of {w : World} {g : Nat} {c : Cm} {bv : Value} (h : w.heap[g]? = some (.cells #[.int .i64 c.client, .int .i64 c.req, .int .i64 c.kind, .string c.queue, .int .i64 c.vis, .int .i64 c.ret, .int .i64 c.del, .int .i64 c.win, .int .i64 c.mx, .string c.dead, .bool c.fifo, .string c.body, .string c.group, .string c.key, .string c.receipt, bv, .int .i64 c.n, .int .i64 c.m] 26 (0, 0))) :
    (ldQ (.pointer (some ⟨g, 4, none⟩))).run Tryd.prog w = .ok (.agg #[.int .i64 c.vis, .int .i64 c.ret, .int .i64 c.del, .int .i64 c.win, .int .i64 c.mx, .string c.dead, .bool c.fifo]) w := by
  have hi : (Tryd.prog.info? 23).map (·.size) = some (atC c).length := by show _ = some 7; kernel_rfl
  unfold ldQ
  simp only [Instr.loadAt, Instr.sureAddr, Sem.run_bind, Sem.run_pure, Result.andThen_ok, run_loadVar_mid (P := Tryd.prog) w g 4 23 (atC c) _ (at_range h) Tryd.underlying23 rfl hi]
  rfl
theorem ldP_of {w : World} {g : Nat} {c : Cm} {bv : Value} (h : w.heap[g]? = some (.cells #[.int .i64 c.client, .int .i64 c.req, .int .i64 c.kind, .string c.queue, .int .i64 c.vis, .int .i64 c.ret, .int .i64 c.del, .int .i64 c.win, .int .i64 c.mx, .string c.dead, .bool c.fifo, .string c.body, .string c.group, .string c.key, .string c.receipt, bv, .int .i64 c.n, .int .i64 c.m] 37 (0, 0))) :
    (ldP (.pointer (some ⟨g, 4, none⟩))).run Tryd.prog w = .ok (.agg #[.int .i64 c.vis, .int .i64 c.ret, .int .i64 c.del, .int .i64 c.win, .int .i64 c.mx, .string c.dead, .bool c.fifo]) w := by
  have hi : (Tryd.prog.info? 35).map (·.size) = some (atC c).length := by show _ = some 7; kernel_rfl
  unfold ldP
  simp only [Instr.loadAt, Instr.sureAddr, Sem.run_bind, Sem.run_pure, Result.andThen_ok, run_loadVar_mid (P := Tryd.prog) w g 4 35 (atC c) _ (at_range h) Tryd.underlying35 rfl hi]
  rfl
attribute [local go_sem ↓] loadAt_ldR loadAt_ldC loadAt_ldQ loadAt_ldP
attribute [local go_sem high] eq_rattr

theorem encB_le {c : Cm} (h : right c = true) : (encB c).length ≤ 10000 := by
  obtain ⟨h0, h1, hn, ht, hbl, hb⟩ := right_n h
  have l1 := fm_len hn
  have l2 := ft_len ht
  have l3 := ft_len hb
  have l4 := numB_len' (n := if c.fifo then 1 else 0) (by split <;> omega)
  have l5 := numB_len' (n := c.bodies.length) (by omega)
  change _ ≤ 9 * 10 at l1
  change _ ≤ 265 * 6 at l2
  unfold encB
  simp only [List.length_append]
  omega

theorem one_rangeW {w : World} {g : Nat} {a : Cm} {va : Value} {t : TypeId} (h : w.heap[g]? = some (.cells #[.int .i64 a.client, .int .i64 a.req, .int .i64 a.kind, .string a.queue, .int .i64 a.vis, .int .i64 a.ret, .int .i64 a.del, .int .i64 a.win, .int .i64 a.mx, .string a.dead, .bool a.fifo, .string a.body, .string a.group, .string a.key, .string a.receipt, va, .int .i64 a.n, .int .i64 a.m] t (0, 0))) : w.rangeAt g 0 (CellsOf [(a, va)]) := fun j v hj => by
  rw [Nat.zero_add]
  refine (blk_cell h j).trans ?_
  rw [← Array.getElem?_toList]
  exact hj

set_option maxHeartbeats 16000000 in
set_option maxRecDepth 100000 in
theorem writes_any (c : Cm) (A : Option Addr) (k : Nat) (w : World) (hC : Kd.string.C w A c.bodies.length c.bodies)
    (hgl : w.cell? ⟨0, 0, none⟩ = some (.iface 154 (.agg #[.pointer (some ⟨1, 32, none⟩)]))) :
    Calls Tryd.prog 3 #[.agg #[.int .i64 c.client, .int .i64 c.req, .int .i64 c.kind, .string c.queue, .int .i64 c.vis, .int .i64 c.ret, .int .i64 c.del, .int .i64 c.win, .int .i64 c.mx, .string c.dead, .bool c.fifo, .string c.body, .string c.group, .string c.key, .string c.receipt, .slice A c.bodies.length k, .int .i64 c.n, .int .i64 c.m]] w fun e w' => e = .returned (.bool true) ∧ Below w.heap.size w w' := by
  have HC := Lib.hid hC
  have HG := Lib.hid hgl
  clear hC hgl
  go_enter Tryd.func3, Tryd.ntmps3
  go_wp2_with (first
    | ((with_reducible refine gate_dst (N := 1) rfl ?_); refine box_event ?hg (N := 1) ?hd (cs := #[.int .i64 c.client, .int .i64 c.req, .int .i64 c.kind, .string c.queue, .int .i64 c.vis, .int .i64 c.ret, .int .i64 c.del, .int .i64 c.win, .int .i64 c.mx, .string c.dead, .bool c.fifo, .string c.body, .string c.group, .string c.key, .string c.receipt, .slice A c.bodies.length k, .int .i64 c.n, .int .i64 c.m]) (t := 26) ?hr ?_; (case hd => rfl); (case hg => rfl); (case hr => first | (go_simp; done) | (go_simp; rfl)); intro g2 hg2 w2 hbox2 hb2; have HB2 := Lib.hid hb2; have HX2 := Lib.hid hbox2; have l0 := ldC_of hbox2; clear hg2 hbox2 hb2)
    | ((with_reducible refine gate_dst (N := 10) rfl ?_); refine lit_event ?hg (N := 10) ?hd (cs := #[.int .i64 c.client, .int .i64 c.req, .int .i64 c.kind, .string c.queue, .int .i64 c.vis, .int .i64 c.ret, .int .i64 c.del, .int .i64 c.win, .int .i64 c.mx, .string c.dead, .bool c.fifo, .string c.body, .string c.group, .string c.key, .string c.receipt, .slice A c.bodies.length k, .int .i64 c.n, .int .i64 c.m]) (t := 26) 1 ?hr ?_; (case hd => rfl); (case hg => rfl); (case hr => first | (go_simp; done) | (go_simp; rfl)); intro g4 hg4 w4 hbox4 hb4; have HB4 := Lib.hid hb4; have HX4 := Lib.hid hbox4; clear hg4 hbox4 hb4))
  have hfew := few_any [(c, .slice A c.bodies.length k)] g4 1 w4 (one_rangeW HX4.out) (by
    intro c' bv h
    have hA4 := Kd.C_below (Kd.C_below HC.out HB2.out) HB4.out
    simp only [List.mem_cons, List.not_mem_nil, or_false, Prod.mk.injEq] at h
    obtain ⟨rfl, rfl⟩ := h
    exact ⟨A, k, rfl, hA4⟩)
  refine hfew.mono ?_
  clear hfew
  rintro e w5 ⟨⟨q, rfl⟩, hb5⟩
  have HBB := Lib.hid ((HB2.out.trans (HB4.out.mono HB2.out.size)).trans (hb5.mono (Nat.le_trans HB2.out.size HB4.out.size)))
  have HXa := Lib.hid ((hb5.block g2 (Nat.lt_of_lt_of_le (blk_lt HX2.out) HB4.out.size)).trans ((HB4.out.block g2 (blk_lt HX2.out)).trans HX2.out))
  have HC5 := Lib.hid (Kd.C_below HC.out HBB.out)
  clear hb5 HC HX2 HX4 HB2 HB4 l0
  cases q with
  | false =>
    go_wp2_with fail
    refine (awake_any _).mono ?_
    rintro e w6 ⟨rfl, hb6⟩
    have HB6 := Lib.hid (HBB.out.trans (hb6.mono HBB.out.size))
    clear hb6
    go_wp2_with fail
    go_ret
    exact ⟨rfl, HB6.out⟩
  | true =>
    have l0 := ldC_of HXa.out
    go_wp2_with fail
    cases hra : right c with
    | false =>
      refine (write_no c A k _ HC5.out hra).mono ?_
      rintro e w6 ⟨v, rfl, he6, hb6⟩
      have HE6 := Lib.hid he6
      have HB6 := Lib.hid (HBB.out.trans (hb6.mono HBB.out.size))
      have HX6 := Lib.hid ((hb6.block g2 (blk_lt HXa.out)).trans HXa.out)
      have HC6 := Lib.hid (Kd.C_below HC5.out hb6)
      have HRA := Lib.hid hra
      clear hb6 he6 hra HXa HC5 HBB l0
      have l0 := ldC_of HX6.out
      go_wp2_with fail
      refine (lcmd_any c A k _).mono ?_
      rintro e w7 ⟨rfl, hb7⟩
      have HE7 := Lib.hid (HE6.out.below hb7)
      have HB7 := Lib.hid (HB6.out.trans (hb7.mono HB6.out.size))
      have HX7 := Lib.hid ((hb7.block g2 (blk_lt HX6.out)).trans HX6.out)
      have HC7 := Lib.hid (Kd.C_below HC6.out hb7)
      clear hb7 HX6 HC6 HB6 HE6 l0
      go_wp2_with (first
        | ((with_reducible refine gate_dst (N := 5) rfl ?_); refine box_event ?hg (N := 5) ?hd (cs := cvR zeroCm (.slice none 0 0)) (t := 37) ?hr ?_; (case hd => rfl); (case hg => rfl); (case hr => first | (go_simp; done) | (go_simp; rfl)); intro g5 hg5 wa hxa hba; have HG5 := Lib.hid hg5; have HXa := Lib.hid hxa; have HBa := Lib.hid hba; clear hg5 hxa hba)
        | (refine store_event rfl 37 (.tmp 5) (.tmp 20) rfl g5 (cvR c (.slice A c.bodies.length k)) rfl rfl 37 (cvR zeroCm (.slice none 0 0)) HXa.out (cvR_rinfo _ _) rfl (cvR_one _ _ _ _) ?_; intro wb hxb hsb; have HWb := Lib.hid (HBa.out.trans (hsb.2 w7.heap.size (by have := HG5.out; omega))); have HT : Hid (Two w wb g2 g5 c A A k k) := Lib.hid ⟨(HWb.out.block g2 (blk_lt HX7.out)).trans HX7.out, hxb, Kd.C_below HC7.out HWb.out, Kd.C_below HC7.out HWb.out, HB7.out.trans (HWb.out.mono HB7.out.size)⟩; have HE8 := Lib.hid (HE7.out.below HWb.out); have m1 := ldR_of HT.out.y; clear hxb hsb HXa HBa HG5 HWb))
      clear HX7 HC7 HB7 HE7
      refine (tright_any c A k _ HT.out.b).mono ?_
      rintro e w8 ⟨rfl, hb8⟩
      rw [HRA.out]
      have HT8 := Lib.hid (HT.out.later hb8)
      have HE9 := Lib.hid (HE8.out.below hb8)
      clear hb8 HT HE8 m1
      have l1 := ldC_of HT8.out.x
      go_wp2_with fail
      refine (right_any c A k _ HT8.out.a).mono ?_
      rintro e w9 ⟨rfl, hb9⟩
      rw [HRA.out]
      have HT9 := Lib.hid (HT8.out.later hb9)
      have HE10 := Lib.hid (HE9.out.below hb9)
      clear hb9 HT8 HE9 l1
      go_wp2_with fail
      refine (code_any _ _ 0 1 _ (.inr ⟨by decide, HE10.out⟩) (pw_cell_below HT9.out.below HG.out)).mono ?_
      rintro e w10 ⟨rfl, hb10⟩
      have HB10 := Lib.hid (HT9.out.below.trans (hb10.mono HT9.out.below.size))
      clear hb10
      go_wp2_with fail
      refine (awake_any _).mono ?_
      rintro e w11 ⟨rfl, hb11⟩
      have HB11 := Lib.hid (HB10.out.trans (hb11.mono HB10.out.size))
      clear hb11
      go_wp2_with fail
      go_ret
      exact ⟨rfl, HB11.out⟩
    | true =>
      refine (write_yes c A k _ HC5.out hra).mono ?_
      rintro e w6 ⟨v, rfl, ho6, hb6⟩
      obtain ⟨A6, k6, rfl, _, hr6⟩ := ho6.form
      have HO6 := Lib.hid hr6
      have HB6 := Lib.hid (HBB.out.trans (hb6.mono HBB.out.size))
      have HX6 := Lib.hid ((hb6.block g2 (blk_lt HXa.out)).trans HXa.out)
      have HC6 := Lib.hid (Kd.C_below HC5.out hb6)
      have HRA := Lib.hid hra
      clear hb6 ho6 hr6 hra HXa HC5 HBB l0
      have l0 := ldC_of HX6.out
      go_wp2_with fail
      refine (lcmd_any c A k _).mono ?_
      rintro e w7 ⟨rfl, hb7⟩
      have HO7 := Lib.hid (HO6.out.below hb7)
      have HB7 := Lib.hid (HB6.out.trans (hb7.mono HB6.out.size))
      have HX7 := Lib.hid ((hb7.block g2 (blk_lt HX6.out)).trans HX6.out)
      have HC7 := Lib.hid (Kd.C_below HC6.out hb7)
      clear hb7 HX6 HC6 HB6 HO6 l0
      go_wp2_with (first
        | ((with_reducible refine gate_dst (N := 5) rfl ?_); refine box_event ?hg (N := 5) ?hd (cs := cvR zeroCm (.slice none 0 0)) (t := 37) ?hr ?_; (case hd => rfl); (case hg => rfl); (case hr => first | (go_simp; done) | (go_simp; rfl)); intro g5 hg5 wa hxa hba; have HG5 := Lib.hid hg5; have HXa := Lib.hid hxa; have HBa := Lib.hid hba; clear hg5 hxa hba)
        | (refine store_event rfl 37 (.tmp 5) (.tmp 20) rfl g5 (cvR c (.slice A c.bodies.length k)) rfl rfl 37 (cvR zeroCm (.slice none 0 0)) HXa.out (cvR_rinfo _ _) rfl (cvR_one _ _ _ _) ?_; intro wb hxb hsb; have HWb := Lib.hid (HBa.out.trans (hsb.2 w7.heap.size (by have := HG5.out; omega))); have HT : Hid (Two w wb g2 g5 c A A k k) := Lib.hid ⟨(HWb.out.block g2 (blk_lt HX7.out)).trans HX7.out, hxb, Kd.C_below HC7.out HWb.out, Kd.C_below HC7.out HWb.out, HB7.out.trans (HWb.out.mono HB7.out.size)⟩; have HO8 := Lib.hid (HO7.out.below HWb.out); have m1 := ldR_of HT.out.y; clear hxb hsb HXa HBa HG5 HWb))
      clear HX7 HC7 HB7 HO7
      refine (tright_any c A k _ HT.out.b).mono ?_
      rintro e w8 ⟨rfl, hb8⟩
      rw [HRA.out]
      have HT8 := Lib.hid (HT.out.later hb8)
      have HO9 := Lib.hid (HO8.out.below hb8)
      clear hb8 HT HO8 m1
      have l1 := ldC_of HT8.out.x
      go_wp2_with fail
      refine (right_any c A k _ HT8.out.a).mono ?_
      rintro e w9 ⟨rfl, hb9⟩
      rw [HRA.out]
      have HT9 := Lib.hid (HT8.out.later hb9)
      have HO10 := Lib.hid (HO9.out.below hb9)
      clear hb9 HT8 HO9 l1
      have hRd := read_any A6 k6 (encB c) w9 HO10.out (by have := encB_le HRA.out; omega) (encB_bytes c)
      rw [(read_enc HRA.out).1, (read_enc HRA.out).2] at hRd
      have HRD := Lib.hid hRd
      clear hRd
      go_wp2_with fail
      refine HRD.out.mono ?_
      rintro e w10 ⟨⟨bv, ev, a_, rfl, he, hs⟩, hb10⟩
      have hev := errV_zero he
      subst hev
      obtain ⟨A2, k2, rfl, _, hA2⟩ := hs.form
      have HA2 := Lib.hid hA2
      have HT10 := Lib.hid (HT9.out.later hb10)
      have HO11 := Lib.hid (HO10.out.below hb10)
      clear he hs hA2 hb10 HRD HT9 HO10
      go_wp2_with (first
        | ((with_reducible refine gate_dst (N := 7) rfl ?_); refine box_event ?hg (N := 7) ?hd (cs := cvR zeroCm (.slice none 0 0)) (t := 26) ?hr ?_; (case hd => rfl); (case hg => rfl); (case hr => first | (go_simp; done) | (go_simp; rfl)); intro g7 hg7 wc hxc hbc; have HG7 := Lib.hid hg7; have HXc := Lib.hid hxc; have HBc := Lib.hid hbc; clear hg7 hxc hbc)
        | (refine store_event rfl 26 (.tmp 7) (.tmp 43) rfl g7 (cvR c (.slice A2 c.bodies.length k2)) rfl rfl 26 (cvR zeroCm (.slice none 0 0)) HXc.out (cvR_info _ _) rfl (cvR_one _ _ _ _) ?_; intro wd hxd hsd; have HWd := Lib.hid (HBc.out.trans (hsd.2 w10.heap.size (by have := HG7.out; omega))); have HT : Hid (Two w wd g7 g5 c A2 A k2 k) := Lib.hid ⟨hxd, (HWd.out.block g5 (blk_lt HT10.out.y)).trans HT10.out.y, Kd.C_below HA2.out HWd.out, Kd.C_below HT10.out.b HWd.out, HT10.out.below.trans (HWd.out.mono HT10.out.below.size)⟩; have HO12 := Lib.hid (HO11.out.below HWd.out); clear hxd hsd HXc HBc HG7 HWd))
      clear HT10 HA2 HO11
      have HSM := Lib.hid ((sameCm_iff c c).2 rfl)
      have hdr := below_drew1 (Below.refl wd.heap.size wd)
      have HT0 := Lib.hid (HT.out.later hdr)
      have HOd := Lib.hid (HO12.out.below hdr)
      have l0 := ldC_of HT0.out.x
      have m0 := ldR_of HT0.out.y
      have q0 := ldQ_of HT0.out.x
      have p0 := ldP_of HT0.out.y
      clear hdr
      go_region_held3 (fun w' => (ldC (.pointer (some ⟨g7, 0, none⟩))).run Tryd.prog w' = .ok (.agg #[.int .i64 c.client, .int .i64 c.req, .int .i64 c.kind, .string c.queue, .int .i64 c.vis, .int .i64 c.ret, .int .i64 c.del, .int .i64 c.win, .int .i64 c.mx, .string c.dead, .bool c.fifo, .string c.body, .string c.group, .string c.key, .string c.receipt, .slice A2 c.bodies.length k2, .int .i64 c.n, .int .i64 c.m]) w' ∧ (ldR (.pointer (some ⟨g5, 0, none⟩))).run Tryd.prog w' = .ok (.agg #[.int .i64 c.client, .int .i64 c.req, .int .i64 c.kind, .string c.queue, .int .i64 c.vis, .int .i64 c.ret, .int .i64 c.del, .int .i64 c.win, .int .i64 c.mx, .string c.dead, .bool c.fifo, .string c.body, .string c.group, .string c.key, .string c.receipt, .slice A c.bodies.length k, .int .i64 c.n, .int .i64 c.m]) w' ∧ (ldQ (.pointer (some ⟨g7, 4, none⟩))).run Tryd.prog w' = .ok (.agg #[.int .i64 c.vis, .int .i64 c.ret, .int .i64 c.del, .int .i64 c.win, .int .i64 c.mx, .string c.dead, .bool c.fifo]) w' ∧ (ldP (.pointer (some ⟨g5, 4, none⟩))).run Tryd.prog w' = .ok (.agg #[.int .i64 c.vis, .int .i64 c.ret, .int .i64 c.del, .int .i64 c.win, .int .i64 c.mx, .string c.dead, .bool c.fifo]) w')
        (first
          | exact ⟨l5, m5, q5, p5⟩
          | exact ⟨l4, m4, q4, p4⟩
          | exact ⟨l3, m3, q3, p3⟩
          | exact ⟨l2, m2, q2, p2⟩
          | exact ⟨l1, m1, q1, p1⟩
          | exact ⟨l0, m0, q0, p0⟩)
        (first
          | (go_at_call 17; refine (twrite_any c A k _ HT0.out.b HRA.out).mono ?_; rintro e w11 ⟨v11, rfl, ho11, hb11⟩; obtain ⟨A11, k11, rfl, _, hr11⟩ := ho11.form; have HR11 := Lib.hid hr11; have HOe := Lib.hid (HOd.out.below hb11); have HT1 := Lib.hid (HT0.out.later hb11); have l1 := ldC_of HT1.out.x; have m1 := ldR_of HT1.out.y; have q1 := ldQ_of HT1.out.x; have p1 := ldP_of HT1.out.y; clear ho11 hr11 hb11)
          | (go_at_call 16; refine (bEq_any A6 A11 k6 k11 (encB c) (encB c) _ HOe.out HR11.out (encB_bytes _) (encB_bytes _)).mono ?_; rintro e w12 ⟨rfl, rfl⟩; rw [decide_eq_true rfl])
          | (go_at_call 11; refine (lcmd_any c A2 k2 _).mono ?_; rintro e w13 ⟨rfl, hb13⟩; have HT2 := Lib.hid (HT1.out.later hb13); have l2 := ldC_of HT2.out.x; have m2 := ldR_of HT2.out.y; have q2 := ldQ_of HT2.out.x; have p2 := ldP_of HT2.out.y; clear hb13)
          | (go_at_call 18; refine (same_cmd c c A2 A k2 k _ HT2.out.a HT2.out.b).mono ?_; rintro e w14 ⟨rfl, hb14⟩; rw [HSM.out]; have HT3 := Lib.hid (HT2.out.later hb14); have l3 := ldC_of HT3.out.x; have m3 := ldR_of HT3.out.y; have q3 := ldQ_of HT3.out.x; have p3 := ldP_of HT3.out.y; clear hb14)
          | (go_at_call 19; refine (attr_any c _).mono ?_; rintro e w15 ⟨rfl, hb15⟩; have HT4 := Lib.hid (HT3.out.later hb15); have l4 := ldC_of HT4.out.x; have m4 := ldR_of HT4.out.y; have q4 := ldQ_of HT4.out.x; have p4 := ldP_of HT4.out.y; clear hb15)
          | (go_at_call 9; refine (awake_any _).mono ?_; rintro e w16 ⟨rfl, hb16⟩; have HT5 := Lib.hid (HT4.out.later hb16); have l5 := ldC_of HT5.out.x; have m5 := ldR_of HT5.out.y; have q5 := ldQ_of HT5.out.x; have p5 := ldP_of HT5.out.y; clear hb16))
      have HBL := Lib.hid HT5.out.below
      go_wp2_with fail
      go_ret
      exact ⟨rfl, HBL.out⟩
end Go.Proofs.YtlgippliihgcjaaDoor.C
