/- cmd.Right. -/
import Derived.Test.YtlgippliihgcjaaDoorC2
namespace Go.Proofs.YtlgippliihgcjaaDoor.C
set_option linter.unusedVariables false
set_option linter.unusedSimpArgs false
open Go.RowKit Go.Proofs.YtlgippliihgcjaaDoorW.PrintWords

theorem right_low {c : Cm} (h : c.n < -1) : right c = false := by
  unfold right; rw [decide_eq_false (by omega)]; rfl
theorem right_high {c : Cm} (h : 4611686018427387904 ≤ c.n) : right c = false := by
  unfold right; rw [decide_eq_false (by omega)]; rfl
theorem right_mid {c : Cm} (h : -1 ≤ c.n) (h1 : c.n < 4611686018427387904) : right c = (c.nums.all numOk && (c.txts.all txtOk && (decide (c.bodies.length ≤ 10) && c.bodies.all txtOk))) := by
  unfold right; rw [decide_eq_true ⟨h, h1⟩]; rfl

set_option maxHeartbeats 4000000 in
set_option maxRecDepth 100000 in
theorem right_any (c : Cm) (A : Option Addr) (k : Nat) (w : World) (hC : Kd.string.C w A c.bodies.length c.bodies) :
    Calls Tryd.prog 13 #[.agg #[.int .i64 c.client, .int .i64 c.req, .int .i64 c.kind, .string c.queue, .int .i64 c.vis, .int .i64 c.ret, .int .i64 c.del, .int .i64 c.win, .int .i64 c.mx, .string c.dead, .bool c.fifo, .string c.body, .string c.group, .string c.key, .string c.receipt, .slice A c.bodies.length k, .int .i64 c.n, .int .i64 c.m]] w fun e w' => e = .returned (.bool (right c)) ∧ Below w.heap.size w w' := by
  have HC := Lib.hid hC
  clear hC
  by_cases h0 : c.n < -1
  · have HR := Lib.hid (right_low h0)
    go_enter Tryd.func13, Tryd.ntmps13
    go_wp2
    go_ret
    exact ⟨by rw [HR.out]; rfl, below_alloc (Below.refl _ _) _⟩
  · by_cases h1 : 4611686018427387904 ≤ c.n
    · have HR := Lib.hid (right_high h1)
      go_enter Tryd.func13, Tryd.ntmps13
      go_wp2
      go_ret
      exact ⟨by rw [HR.out]; rfl, below_alloc (Below.refl _ _) _⟩
    · have HR := Lib.hid (right_mid (c := c) (by omega) (by omega))
      have h3 : -1 ≤ c.n := by omega
      go_enter Tryd.func13, Tryd.ntmps13
      go_wp2_with fail
      have Hg := Lib.hid (heap_alloc_new w (.cells #[.int .i64 c.client, .int .i64 c.req, .int .i64 c.kind, .string c.queue, .int .i64 c.vis, .int .i64 c.ret, .int .i64 c.del, .int .i64 c.win, .int .i64 c.mx, .string c.dead, .bool c.fifo, .string c.body, .string c.group, .string c.key, .string c.receipt, .slice A c.bodies.length k, .int .i64 (c.n + 1), .int .i64 c.m] 26))
      have HB := Lib.hid (below_alloc (Below.refl w.heap.size w) (.cells #[.int .i64 c.client, .int .i64 c.req, .int .i64 c.kind, .string c.queue, .int .i64 c.vis, .int .i64 c.ret, .int .i64 c.del, .int .i64 c.win, .int .i64 c.mx, .string c.dead, .bool c.fifo, .string c.body, .string c.group, .string c.key, .string c.receipt, .slice A c.bodies.length k, .int .i64 (c.n + 1), .int .i64 c.m] 26))
      generalize w.alloc (.cells #[.int .i64 c.client, .int .i64 c.req, .int .i64 c.kind, .string c.queue, .int .i64 c.vis, .int .i64 c.ret, .int .i64 c.del, .int .i64 c.win, .int .i64 c.mx, .string c.dead, .bool c.fifo, .string c.body, .string c.group, .string c.key, .string c.receipt, .slice A c.bodies.length k, .int .i64 (c.n + 1), .int .i64 c.m] 26) = w1 at Hg HB ⊢
      have hgt : w.heap.size < w1.heap.size := blk_lt Hg.out
      refine (numbers_any _ w1).mono ?_
      rintro e w2 ⟨b, rfl, hb0, hb2, hbb⟩
      have Hg2 := Lib.hid (hb2.block _ hgt ▸ Hg.out)
      have HB2 := Lib.hid (HB.out.trans (hb2.mono HB.out.size))
      have HBB := Lib.hid hbb
      have hgt2 : w.heap.size < w2.heap.size := blk_lt Hg2.out
      clear hb0 hb2 hbb Hg HB hgt
      go_wp2_with fail
      refine (contains_nums c _ _ _ _ Hg2.out HBB.out).mono ?_
      rintro e w3 ⟨rfl, hb3⟩
      have Hg3 := Lib.hid (hb3.block _ hgt2 ▸ Hg2.out)
      have HB3 := Lib.hid (HB2.out.trans (hb3.mono HB2.out.size))
      have hgt3 : w.heap.size < w3.heap.size := blk_lt Hg3.out
      clear hb3 HBB Hg2 HB2 hgt2
      generalize c.nums.all numOk = q1 at HR ⊢
      cases q1 with
      | false =>
        go_wp2_with fail
        go_ret
        exact ⟨by rw [HR.out]; rfl, HB3.out⟩
      | true =>
        go_wp2_with fail
        refine (texts_any _ w3).mono ?_
        rintro e w4 ⟨b2, rfl, hb0, hb4, hbb⟩
        have Hg4 := Lib.hid (hb4.block _ hgt3 ▸ Hg3.out)
        have HB4 := Lib.hid (HB3.out.trans (hb4.mono HB3.out.size))
        have HBB := Lib.hid hbb
        have hgt4 : w.heap.size < w4.heap.size := blk_lt Hg4.out
        clear hb0 hb4 hbb Hg3 HB3 hgt3
        go_wp2_with fail
        refine (contains_txts c _ _ _ _ Hg4.out HBB.out).mono ?_
        rintro e w5 ⟨rfl, hb5⟩
        have Hg5 := Lib.hid (hb5.block _ hgt4 ▸ Hg4.out)
        have HB5 := Lib.hid (HB4.out.trans (hb5.mono HB4.out.size))
        have hgt5 : w.heap.size < w5.heap.size := blk_lt Hg5.out
        clear hb5 HBB Hg4 HB4 hgt4
        generalize c.txts.all txtOk = q2 at HR ⊢
        cases q2 with
        | false =>
          go_wp2_with fail
          go_ret
          exact ⟨by rw [HR.out]; rfl, HB5.out⟩
        | true =>
          have hc15 : w5.cell? ⟨w.heap.size, 15, none⟩ = some (.slice A c.bodies.length k) := (blk_cell Hg5.out 15).trans rfl
          by_cases hlen : c.bodies.length ≤ 10
          · have HL := Lib.hid (decide_eq_true hlen)
            go_wp2_with fail
            refine (contains_strs c.bodies A k _ (Kd.C_below HC.out HB5.out)).mono ?_
            rintro e w6 ⟨rfl, hb6⟩
            go_wp2_with fail
            go_ret
            exact ⟨by rw [HR.out, HL.out]; simp, HB5.out.trans (hb6.mono HB5.out.size)⟩
          · have HL := Lib.hid (decide_eq_false hlen)
            go_wp2_with fail
            go_ret
            exact ⟨by rw [HR.out, HL.out]; rfl, HB5.out⟩
end Go.Proofs.YtlgippliihgcjaaDoor.C
