/- CmdReads. -/
import Derived.Test.YtlgippliihgcjaaDoorS6
import Derived.Test.YtlgippliihgcjaaDoorS7
import Derived.Test.YtlgippliihgcjaaDoorK1
import Derived.Test.YtlgippliihgcjaaDoorL1
import Derived.Test.YtlgippliihgcjaaDoorL2
import Derived.Test.YtlgippliihgcjaaDoorW1
import Derived.Test.YtlgippliihgcjaaDoorE3
import Derived.Deep.RegionHeld3
namespace Go.Proofs.YtlgippliihgcjaaDoor.C
set_option linter.unusedVariables false
set_option linter.unusedSimpArgs false
open Go.RowKit Go.Proofs.YtlgippliihgcjaaDoorW.PrintWords Go.Proofs.YtlgippliihgcjaaDoorW.PrintLast

/-- A command is loaded. -/
def ldC (x : Value) : Sem Value := Instr.loadAt 26 x
theorem loadAt_ldC (x : Value) : Instr.loadAt 26 x = ldC x := rfl
theorem ldC_of {w : World} {g : Nat} {c : Cm} {bv : Value} (h : w.heap[g]? = some (.cells #[.int .i64 c.client, .int .i64 c.req, .int .i64 c.kind, .string c.queue, .int .i64 c.vis, .int .i64 c.ret, .int .i64 c.del, .int .i64 c.win, .int .i64 c.mx, .string c.dead, .bool c.fifo, .string c.body, .string c.group, .string c.key, .string c.receipt, bv, .int .i64 c.n, .int .i64 c.m] 26 (0, 0))) :
    (ldC (.pointer (some ⟨g, 0, none⟩))).run Tryd.prog w = .ok (.agg #[.int .i64 c.client, .int .i64 c.req, .int .i64 c.kind, .string c.queue, .int .i64 c.vis, .int .i64 c.ret, .int .i64 c.del, .int .i64 c.win, .int .i64 c.mx, .string c.dead, .bool c.fifo, .string c.body, .string c.group, .string c.key, .string c.receipt, bv, .int .i64 c.n, .int .i64 c.m]) w := by
  have hi : (Tryd.prog.info? 26).map (·.size) = some (#[.int .i64 c.client, .int .i64 c.req, .int .i64 c.kind, .string c.queue, .int .i64 c.vis, .int .i64 c.ret, .int .i64 c.del, .int .i64 c.win, .int .i64 c.mx, .string c.dead, .bool c.fifo, .string c.body, .string c.group, .string c.key, .string c.receipt, bv, .int .i64 c.n, .int .i64 c.m] : Array Value).size := by kernel_rfl
  unfold ldC
  simp only [Instr.loadAt, Instr.sureAddr, Sem.run_bind, Sem.run_pure, Result.andThen_ok, run_loadVar_row w g 26 26 _ (0, 0) _ h Tryd.underlying26 rfl hi]
attribute [local go_sem ↓] loadAt_ldR loadAt_ldC

theorem enc_of_read {bs : List Int} (h : readCode bs = 0) : encB (readCm bs) = bs ∧ right (readCm bs) = true := by
  have e : readCm bs = rdCm bs := by unfold readCm; rw [if_pos h]
  unfold readCode at h
  rw [e]
  split at h
  · split at h
    · rename_i h2; exact ⟨h2.2, h2.1⟩
    · simp at h
  · rename_i h2; exact absurd h h2

/-- The two commands in memory, while the law looks at them. -/
structure Two (w wr : World) (g3 g5 : Nat) (c : Cm) (A B : Option Addr) (k m : Nat) : Prop where
  x : wr.heap[g3]? = some (.cells #[.int .i64 c.client, .int .i64 c.req, .int .i64 c.kind, .string c.queue, .int .i64 c.vis, .int .i64 c.ret, .int .i64 c.del, .int .i64 c.win, .int .i64 c.mx, .string c.dead, .bool c.fifo, .string c.body, .string c.group, .string c.key, .string c.receipt, .slice A c.bodies.length k, .int .i64 c.n, .int .i64 c.m] 26 (0, 0))
  y : wr.heap[g5]? = some (.cells #[.int .i64 c.client, .int .i64 c.req, .int .i64 c.kind, .string c.queue, .int .i64 c.vis, .int .i64 c.ret, .int .i64 c.del, .int .i64 c.win, .int .i64 c.mx, .string c.dead, .bool c.fifo, .string c.body, .string c.group, .string c.key, .string c.receipt, .slice B c.bodies.length m, .int .i64 c.n, .int .i64 c.m] 37 (0, 0))
  a : Kd.string.C wr A c.bodies.length c.bodies
  b : Kd.string.C wr B c.bodies.length c.bodies
  below : Below w.heap.size w wr
theorem Two.later {w wr w' : World} {g3 g5 : Nat} {c : Cm} {A B : Option Addr} {k m : Nat} (h : Two w wr g3 g5 c A B k m) (hb : Below wr.heap.size wr w') : Two w w' g3 g5 c A B k m :=
  ⟨(hb.block g3 (blk_lt h.x)).trans h.x, (hb.block g5 (blk_lt h.y)).trans h.y, Kd.C_below h.a hb, Kd.C_below h.b hb, h.below.trans (hb.mono h.below.size)⟩

set_option maxHeartbeats 16000000 in
set_option maxRecDepth 100000 in
theorem reads_any (A : Option Addr) (cp : Nat) (bs : List Int) (w : World) (h : BRead w A bs) (hby : Bytes bs) (hcap : bs.length ≤ cp)
    (hgl : w.cell? ⟨0, 0, none⟩ = some (.iface 154 (.agg #[.pointer (some ⟨1, 32, none⟩)]))) :
    Calls Tryd.prog 4 #[.slice A bs.length cp] w fun e w' => e = .returned (.bool true) ∧ Below w.heap.size w w' := by
  have hlen := h.len
  have HD := Lib.hid h
  have HY := Lib.hid hby
  have HG := Lib.hid hgl
  clear h hby hgl
  by_cases hl : (3000 : Int) < (bs.length : Int)
  · go_enter Tryd.func4, Tryd.ntmps4
    go_wp2_with fail
    refine (awake_any _).mono ?_
    rintro e w6 ⟨rfl, hb6⟩
    have HB6 := Lib.hid hb6
    clear hb6
    go_wp2_with fail
    go_ret
    exact ⟨rfl, HB6.out⟩
  · have hl7 : bs.length ≤ 70368744177664 := by omega
    go_enter Tryd.func4, Tryd.ntmps4
    go_wp2_with fail
    refine (read_any A cp bs w HD.out hl7 HY.out).mono ?_
    rintro e w2 ⟨⟨bv, ev, a_, rfl, he, hs⟩, hb2⟩
    obtain ⟨A2, k2, rfl, _, hA2⟩ := hs.form
    have HE := Lib.hid he
    have HA2 := Lib.hid hA2
    have HB2 := Lib.hid hb2
    clear he hs hA2 hb2
    go_wp2_with (first
      | ((with_reducible refine gate_dst (N := 3) rfl ?_); refine box_event ?hg (N := 3) ?hd (cs := cvR zeroCm (.slice none 0 0)) (t := 26) ?hr ?_; (case hd => rfl); (case hg => rfl); (case hr => first | (go_simp; done) | (go_simp; rfl)); intro g3 hg3 wa hxa hba; have HG3 := Lib.hid hg3; have HXa := Lib.hid hxa; have HBa := Lib.hid hba; clear hg3 hxa hba)
      | (refine store_event rfl 26 (.tmp 3) (.tmp 14) rfl g3 (cvR (readCm bs) (.slice A2 (readCm bs).bodies.length k2)) rfl rfl 26 (cvR zeroCm (.slice none 0 0)) HXa.out (cvR_info _ _) rfl (cvR_one _ _ _ _) ?_; intro wb hxb hsb; have HWb := Lib.hid (HBa.out.trans (hsb.2 w2.heap.size (by have := HG3.out; omega))); have HBb := Lib.hid (HB2.out.trans (HWb.out.mono HB2.out.size)); have HXb := Lib.hid hxb; have HEb := Lib.hid (HE.out.below HWb.out); have HAb := Lib.hid (Kd.C_below HA2.out HWb.out); clear hxb hsb HXa HBa HG3))
    refine (tread_any A cp bs wb (HD.out.below HBb.out) hl7 HY.out hcap).mono ?_
    rintro e w4 ⟨⟨bv4, rfl, hs4⟩, hb4⟩
    obtain ⟨A4, k4, rfl, _, hA4⟩ := hs4.form
    have HA4 := Lib.hid hA4
    have HE4 := Lib.hid (HEb.out.below hb4)
    have HX4 := Lib.hid ((hb4.block g3 (blk_lt HXb.out)).trans HXb.out)
    have HAc := Lib.hid (Kd.C_below HAb.out hb4)
    have HB4 := Lib.hid (HBb.out.trans (hb4.mono HBb.out.size))
    clear hs4 hA4 hb4 HWb HXb HEb HAb HBb HE HA2 HB2
    go_wp2_with (first
      | ((with_reducible refine gate_dst (N := 5) rfl ?_); refine box_event ?hg (N := 5) ?hd (cs := cvR zeroCm (.slice none 0 0)) (t := 37) ?hr ?_; (case hd => rfl); (case hg => rfl); (case hr => first | (go_simp; done) | (go_simp; rfl)); intro g5 hg5 wa hxa hba; have HG5 := Lib.hid hg5; have HXa := Lib.hid hxa; have HBa := Lib.hid hba; clear hg5 hxa hba)
      | (refine store_event rfl 37 (.tmp 5) (.tmp 19) rfl g5 (cvR (readCm bs) (.slice A4 (readCm bs).bodies.length k4)) rfl rfl 37 (cvR zeroCm (.slice none 0 0)) HXa.out (cvR_rinfo _ _) rfl (cvR_one _ _ _ _) ?_; intro wd hxd hsd; have HWd := Lib.hid (HBa.out.trans (hsd.2 w4.heap.size (by have := HG5.out; omega))); have HT : Hid (Two w wd g3 g5 (readCm bs) A2 A4 k2 k4) := Lib.hid ⟨(HWd.out.block g3 (blk_lt HX4.out)).trans HX4.out, hxd, Kd.C_below HAc.out HWd.out, Kd.C_below HA4.out HWd.out, HB4.out.trans (HWd.out.mono HB4.out.size)⟩; have HEd := Lib.hid (HE4.out.below HWd.out); clear hxd hsd HXa HBa HG5 HWd))
    clear HX4 HAc HB4 HA4 HE4
    have hok : readCode bs = 0 → encB (readCm bs) = bs ∧ right (readCm bs) = true := enc_of_read
    have HOK := Lib.hid hok
    clear hok
    generalize readCm bs = cm at HOK HT ⊢
    generalize readCode bs = rc at HOK HEd ⊢
    have hbne : (rc != rc) = false := by simp
    have HSM := Lib.hid ((sameCm_iff cm cm).2 rfl)
    have hdr := below_drew1 (Below.refl wd.heap.size wd)
    have l0 := ldC_of (HT.out.later hdr).x
    have m0 := ldR_of (HT.out.later hdr).y
    have hgd := Lib.hid (pw_cell_below (HT.out.later hdr).below HG.out)
    clear hdr
    go_region_held3 (fun w' => (ldC (.pointer (some ⟨g3, 0, none⟩))).run Tryd.prog w' = .ok (.agg #[.int .i64 cm.client, .int .i64 cm.req, .int .i64 cm.kind, .string cm.queue, .int .i64 cm.vis, .int .i64 cm.ret, .int .i64 cm.del, .int .i64 cm.win, .int .i64 cm.mx, .string cm.dead, .bool cm.fifo, .string cm.body, .string cm.group, .string cm.key, .string cm.receipt, .slice A2 cm.bodies.length k2, .int .i64 cm.n, .int .i64 cm.m]) w' ∧ (ldR (.pointer (some ⟨g5, 0, none⟩))).run Tryd.prog w' = .ok (.agg #[.int .i64 cm.client, .int .i64 cm.req, .int .i64 cm.kind, .string cm.queue, .int .i64 cm.vis, .int .i64 cm.ret, .int .i64 cm.del, .int .i64 cm.win, .int .i64 cm.mx, .string cm.dead, .bool cm.fifo, .string cm.body, .string cm.group, .string cm.key, .string cm.receipt, .slice A4 cm.bodies.length k4, .int .i64 cm.n, .int .i64 cm.m]) w')
      (first
        | exact ⟨l3, m3⟩
        | exact ⟨l2, m2⟩
        | exact ⟨l1, m1⟩
        | exact ⟨l0, m0⟩)
      (first
        | (go_at_call 14; refine (code_any _ ev a_ rc _ (HEd.out.below (below_drew1 (Below.refl _ _))) hgd.out).mono ?_; rintro e w5 ⟨rfl, hb5⟩; have HT5 := Lib.hid (HT.out.later ((below_drew1 (Below.refl wd.heap.size wd)).trans hb5)); have l1 := ldC_of HT5.out.x; have m1 := ldR_of HT5.out.y; clear hb5)
        | (go_at_call 11; refine (lcmd_any cm A2 k2 _).mono ?_; rintro e w6 ⟨rfl, hb6⟩; have HT6 := Lib.hid (HT5.out.later hb6); have l2 := ldC_of HT6.out.x; have m2 := ldR_of HT6.out.y; clear hb6)
        | (go_at_call 18; refine (same_cmd cm cm A2 A4 k2 k4 _ HT6.out.a HT6.out.b).mono ?_; rintro e w7 ⟨rfl, hb7⟩; rw [HSM.out]; have HT7 := Lib.hid (HT6.out.later hb7); have l3 := ldC_of HT7.out.x; have m3 := ldR_of HT7.out.y; clear hb7))
    have HBL := Lib.hid HT7.out.below
    clear HT HT5 HT6 hgd HEd HSM l0 l1 l2 m0 m1 m2
    by_cases h0 : rc = 0
    · obtain ⟨he, hr⟩ := HOK.out h0
      have HEN := Lib.hid he
      have HR := Lib.hid hr
      subst h0
      clear he hr HOK hbne
      go_wp2_with fail
      refine (twrite_any cm A4 k4 _ HT7.out.b HR.out).mono ?_
      rintro e w8 ⟨v8, rfl, ho8, hb8⟩
      obtain ⟨A8, k8, rfl, _, hr8⟩ := ho8.form
      have HR8 := Lib.hid hr8
      have HB8 := Lib.hid (HBL.out.trans (hb8.mono HBL.out.size))
      clear ho8 hr8 hb8
      go_wp2_with fail
      refine (bEq_any A8 A k8 cp (encB cm) bs _ HR8.out (HD.out.below HB8.out) (encB_bytes _) HY.out).mono ?_
      rintro e w9 ⟨rfl, rfl⟩
      rw [decide_eq_true HEN.out]
      go_wp2_with fail
      refine (awake_any _).mono ?_
      rintro e w10 ⟨rfl, hb10⟩
      have HB10 := Lib.hid (HB8.out.trans (hb10.mono HB8.out.size))
      clear hb10
      go_wp2_with fail
      go_ret
      exact ⟨rfl, HB10.out⟩
    · have hne : (rc != 0) = true := by simpa using h0
      clear h0 HOK hbne
      go_wp2_with fail
      refine (awake_any _).mono ?_
      rintro e w10 ⟨rfl, hb10⟩
      have HB10 := Lib.hid (HBL.out.trans (hb10.mono HBL.out.size))
      clear hb10
      go_wp2_with fail
      go_ret
      exact ⟨rfl, HB10.out⟩
end Go.Proofs.YtlgippliihgcjaaDoor.C
