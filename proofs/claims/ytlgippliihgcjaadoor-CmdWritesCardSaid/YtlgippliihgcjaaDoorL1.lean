/- law's own Attr, Cmd. -/
import Derived.Test.YtlgippliihgcjaaDoorC6
import Derived.Deep.RegionHeld3
import Derived.Deep.MidRow
namespace Go.Proofs.YtlgippliihgcjaaDoor.C
set_option linter.unusedVariables false
set_option linter.unusedSimpArgs false
open Go.RowKit Go.Proofs.YtlgippliihgcjaaDoorW.PrintWords

set_option maxHeartbeats 4000000 in
set_option maxRecDepth 100000 in
theorem attr_any (c : Cm) (w : World) :
    Calls Tryd.prog 19 #[.agg #[.int .i64 c.vis, .int .i64 c.ret, .int .i64 c.del, .int .i64 c.win, .int .i64 c.mx, .string c.dead, .bool c.fifo]] w fun e w' => e = .returned (.agg #[.int .i64 c.vis, .int .i64 c.ret, .int .i64 c.del, .int .i64 c.win, .int .i64 c.mx, .string c.dead, .bool c.fifo]) ∧ Below w.heap.size w w' := by
  have HX : Hid (((w.alloc (.cells #[.int .i64 c.vis, .int .i64 c.ret, .int .i64 c.del, .int .i64 c.win, .int .i64 c.mx, .string c.dead, .bool c.fifo] 23)).alloc (.cells #[.int .i64 c.vis, .int .i64 c.ret, .int .i64 c.del, .int .i64 c.win, .int .i64 c.mx, .string c.dead, .bool c.fifo] 35)).heap[w.heap.size + 1]? = some (.cells #[.int .i64 c.vis, .int .i64 c.ret, .int .i64 c.del, .int .i64 c.win, .int .i64 c.mx, .string c.dead, .bool c.fifo] 35 (0, 0))) := heap_alloc2_new w _ _
  have HB := Lib.hid (below_alloc (below_alloc (Below.refl w.heap.size w) (.cells #[.int .i64 c.vis, .int .i64 c.ret, .int .i64 c.del, .int .i64 c.win, .int .i64 c.mx, .string c.dead, .bool c.fifo] 23)) (.cells #[.int .i64 c.vis, .int .i64 c.ret, .int .i64 c.del, .int .i64 c.win, .int .i64 c.mx, .string c.dead, .bool c.fifo] 35))
  go_enter Tryd.func19, Tryd.ntmps19
  go_wp2_with fail
  exact bodyPost_ret (v := .agg #[.int .i64 c.vis, .int .i64 c.ret, .int .i64 c.del, .int .i64 c.win, .int .i64 c.mx, .string c.dead, .bool c.fifo]) (results_cell_row (p := 2) (ty := 35) (by kernel_rfl) _ _ (w.heap.size + 1) 35 #[.int .i64 c.vis, .int .i64 c.ret, .int .i64 c.del, .int .i64 c.win, .int .i64 c.mx, .string c.dead, .bool c.fifo] (0, 0) _ rfl HX.out Tryd.underlying35 rfl (by kernel_rfl)) rfl ⟨rfl, HB.out⟩

theorem there_blk {w : World} {g n : Nat} {t : TypeId} {cs : Array Value} (h : w.heap[g]? = some (.cells cs t (0, 0))) (hn : cs.size = n) : w.there g 0 n := by
  intro j hj
  rw [Nat.zero_add, blk_cell h j]
  exact ⟨by simp; omega, blk_frozen h j⟩
theorem lcmd_cells {w : World} {g g2 : Nat} {c : Cm} {A : Option Addr} {k : Nat} (h : w.heap[g]? = some (.cells #[.int .i64 c.client, .int .i64 c.req, .int .i64 c.kind, .string c.queue, .int .i64 c.vis, .int .i64 c.ret, .int .i64 c.del, .int .i64 c.win, .int .i64 c.mx, .string c.dead, .bool c.fifo, .string c.body, .string c.group, .string c.key, .string c.receipt, .slice A c.bodies.length k, .int .i64 c.n, .int .i64 c.m] 26 (0, 0))) (ht : w.there g2 0 18) :
    w.cell? ⟨g, 0, none⟩ = some (.int .i64 c.client) ∧ w.cell? ⟨g, 1, none⟩ = some (.int .i64 c.req) ∧ w.cell? ⟨g, 2, none⟩ = some (.int .i64 c.kind) ∧ w.cell? ⟨g, 3, none⟩ = some (.string c.queue) ∧ w.cell? ⟨g, 4, none⟩ = some (.int .i64 c.vis) ∧ w.cell? ⟨g, 5, none⟩ = some (.int .i64 c.ret) ∧ w.cell? ⟨g, 6, none⟩ = some (.int .i64 c.del) ∧ w.cell? ⟨g, 7, none⟩ = some (.int .i64 c.win) ∧ w.cell? ⟨g, 8, none⟩ = some (.int .i64 c.mx) ∧ w.cell? ⟨g, 9, none⟩ = some (.string c.dead) ∧ w.cell? ⟨g, 10, none⟩ = some (.bool c.fifo) ∧ w.cell? ⟨g, 11, none⟩ = some (.string c.body) ∧ w.cell? ⟨g, 12, none⟩ = some (.string c.group) ∧ w.cell? ⟨g, 13, none⟩ = some (.string c.key) ∧ w.cell? ⟨g, 14, none⟩ = some (.string c.receipt) ∧ w.cell? ⟨g, 15, none⟩ = some (.slice A c.bodies.length k) ∧ w.cell? ⟨g, 16, none⟩ = some (.int .i64 c.n) ∧ w.cell? ⟨g, 17, none⟩ = some (.int .i64 c.m) ∧ w.there g2 0 18 := by
  have h1 := fun i => blk_cell h i
  exact ⟨(h1 _).trans rfl, (h1 _).trans rfl, (h1 _).trans rfl, (h1 _).trans rfl, (h1 _).trans rfl, (h1 _).trans rfl, (h1 _).trans rfl, (h1 _).trans rfl, (h1 _).trans rfl, (h1 _).trans rfl, (h1 _).trans rfl, (h1 _).trans rfl, (h1 _).trans rfl, (h1 _).trans rfl, (h1 _).trans rfl, (h1 _).trans rfl, (h1 _).trans rfl, (h1 _).trans rfl, ht⟩

theorem ret_lcmd {tmps : Array Value} {W : World} {g : Nat} {cs : List Value} (hp : tmps.getD 2 undef = .pointer (some ⟨g, 0, none⟩)) (hr : W.rangeAt g 0 cs) (hl : cs.length = 18) :
    (results Tryd.f11 tmps).run Tryd.prog W = .ok (.agg cs.toArray) W := by
  have hp' : tmps[2]?.getD undef = .pointer (some ⟨g, 0, none⟩) := by simpa using hp
  have h := run_loadVar_mid (P := Tryd.prog) W g 0 37 cs _ hr Tryd.underlying37 rfl (by rw [hl]; kernel_rfl)
  have hres : Func.results Tryd.f11 = #[.cell 2 37] := by kernel_rfl
  simp [results, hres, hp', asAddr, h]
theorem info_rcmd : (Tryd.prog.info? 37).map (·.size) = some 18 := by kernel_rfl
def stV (x y : Value) : Sem Unit := Instr.storeAt 37 x y
theorem storeAt_stV (x y : Value) : Instr.storeAt 37 x y = stV x y := rfl
theorem run_stV (W : World) (b : Nat) (cells : Array Value) (hs : cells.size = 18) (ht : W.there b 0 18) (h1 : cells.all (·.oneCell') = true) :
    (stV (.pointer (some ⟨b, 0, none⟩)) (.agg cells)).run Tryd.prog W = .ok () (W.setCells b 0 cells.toList) :=
  run_storeAt_mid W b 0 37 cells (by rw [hs]; exact ht) (by rw [hs]; exact info_rcmd) h1
attribute [local go_sem ↓] storeAt_stV

set_option maxHeartbeats 8000000 in
set_option maxRecDepth 100000 in
theorem lcmd_any (c : Cm) (A : Option Addr) (k : Nat) (w : World) :
    Calls Tryd.prog 11 #[.agg #[.int .i64 c.client, .int .i64 c.req, .int .i64 c.kind, .string c.queue, .int .i64 c.vis, .int .i64 c.ret, .int .i64 c.del, .int .i64 c.win, .int .i64 c.mx, .string c.dead, .bool c.fifo, .string c.body, .string c.group, .string c.key, .string c.receipt, .slice A c.bodies.length k, .int .i64 c.n, .int .i64 c.m]] w fun e w' => e = .returned (.agg #[.int .i64 c.client, .int .i64 c.req, .int .i64 c.kind, .string c.queue, .int .i64 c.vis, .int .i64 c.ret, .int .i64 c.del, .int .i64 c.win, .int .i64 c.mx, .string c.dead, .bool c.fifo, .string c.body, .string c.group, .string c.key, .string c.receipt, .slice A c.bodies.length k, .int .i64 c.n, .int .i64 c.m]) ∧ Below w.heap.size w w' := by
  have HX : Hid (((w.alloc (.cells #[.int .i64 c.client, .int .i64 c.req, .int .i64 c.kind, .string c.queue, .int .i64 c.vis, .int .i64 c.ret, .int .i64 c.del, .int .i64 c.win, .int .i64 c.mx, .string c.dead, .bool c.fifo, .string c.body, .string c.group, .string c.key, .string c.receipt, .slice A c.bodies.length k, .int .i64 c.n, .int .i64 c.m] 26)).alloc (.cells #[.int .i64 0, .int .i64 0, .int .i64 0, .string ⟨#[]⟩, .int .i64 0, .int .i64 0, .int .i64 0, .int .i64 0, .int .i64 0, .string ⟨#[]⟩, .bool false, .string ⟨#[]⟩, .string ⟨#[]⟩, .string ⟨#[]⟩, .string ⟨#[]⟩, .slice none 0 0, .int .i64 0, .int .i64 0] 37)).heap[w.heap.size + 1]? = some (.cells #[.int .i64 0, .int .i64 0, .int .i64 0, .string ⟨#[]⟩, .int .i64 0, .int .i64 0, .int .i64 0, .int .i64 0, .int .i64 0, .string ⟨#[]⟩, .bool false, .string ⟨#[]⟩, .string ⟨#[]⟩, .string ⟨#[]⟩, .string ⟨#[]⟩, .slice none 0 0, .int .i64 0, .int .i64 0] 37 (0, 0))) := heap_alloc2_new w _ _
  have HY : Hid (((w.alloc (.cells #[.int .i64 c.client, .int .i64 c.req, .int .i64 c.kind, .string c.queue, .int .i64 c.vis, .int .i64 c.ret, .int .i64 c.del, .int .i64 c.win, .int .i64 c.mx, .string c.dead, .bool c.fifo, .string c.body, .string c.group, .string c.key, .string c.receipt, .slice A c.bodies.length k, .int .i64 c.n, .int .i64 c.m] 26)).alloc (.cells #[.int .i64 0, .int .i64 0, .int .i64 0, .string ⟨#[]⟩, .int .i64 0, .int .i64 0, .int .i64 0, .int .i64 0, .int .i64 0, .string ⟨#[]⟩, .bool false, .string ⟨#[]⟩, .string ⟨#[]⟩, .string ⟨#[]⟩, .string ⟨#[]⟩, .slice none 0 0, .int .i64 0, .int .i64 0] 37)).heap[w.heap.size]? = some (.cells #[.int .i64 c.client, .int .i64 c.req, .int .i64 c.kind, .string c.queue, .int .i64 c.vis, .int .i64 c.ret, .int .i64 c.del, .int .i64 c.win, .int .i64 c.mx, .string c.dead, .bool c.fifo, .string c.body, .string c.group, .string c.key, .string c.receipt, .slice A c.bodies.length k, .int .i64 c.n, .int .i64 c.m] 26 (0, 0))) := heap_alloc2_old w _ _
  have HB := Lib.hid (below_alloc (below_alloc (Below.refl w.heap.size w) (.cells #[.int .i64 c.client, .int .i64 c.req, .int .i64 c.kind, .string c.queue, .int .i64 c.vis, .int .i64 c.ret, .int .i64 c.del, .int .i64 c.win, .int .i64 c.mx, .string c.dead, .bool c.fifo, .string c.body, .string c.group, .string c.key, .string c.receipt, .slice A c.bodies.length k, .int .i64 c.n, .int .i64 c.m] 26)) (.cells #[.int .i64 0, .int .i64 0, .int .i64 0, .string ⟨#[]⟩, .int .i64 0, .int .i64 0, .int .i64 0, .int .i64 0, .int .i64 0, .string ⟨#[]⟩, .bool false, .string ⟨#[]⟩, .string ⟨#[]⟩, .string ⟨#[]⟩, .string ⟨#[]⟩, .slice none 0 0, .int .i64 0, .int .i64 0] 37))
  go_enter Tryd.func11, Tryd.ntmps11
  go_wp2_with fail
  generalize (w.alloc (.cells #[.int .i64 c.client, .int .i64 c.req, .int .i64 c.kind, .string c.queue, .int .i64 c.vis, .int .i64 c.ret, .int .i64 c.del, .int .i64 c.win, .int .i64 c.mx, .string c.dead, .bool c.fifo, .string c.body, .string c.group, .string c.key, .string c.receipt, .slice A c.bodies.length k, .int .i64 c.n, .int .i64 c.m] 26)).alloc (.cells #[.int .i64 0, .int .i64 0, .int .i64 0, .string ⟨#[]⟩, .int .i64 0, .int .i64 0, .int .i64 0, .int .i64 0, .int .i64 0, .string ⟨#[]⟩, .bool false, .string ⟨#[]⟩, .string ⟨#[]⟩, .string ⟨#[]⟩, .string ⟨#[]⟩, .slice none 0 0, .int .i64 0, .int .i64 0] 37) = w1 at HX HY HB ⊢
  obtain ⟨g1, hg1⟩ : ∃ g1, w.heap.size = g1 := ⟨_, rfl⟩
  obtain ⟨g2, hg2⟩ : ∃ g2, w.heap.size + 1 = g2 := ⟨_, rfl⟩
  have HG1 : Hid (g1 ≠ g2 ∧ w.heap.size ≤ g2) := Lib.hid (by omega)
  rw [hg2] at HX ⊢
  rw [hg1] at HY
  have HG := Lib.hid hg1
  clear hg2
  have h0 := lcmd_cells HY.out (there_blk (n := 18) HX.out rfl)
  obtain ⟨z0, z1, z2, z3, z4, z5, z6, z7, z8, z9, z10, z11, z12, z13, z14, z15, z16, z17, zt⟩ := h0
  go_region_held3 (fun w' => w'.cell? ⟨g1, 0, none⟩ = some (.int .i64 c.client) ∧ w'.cell? ⟨g1, 1, none⟩ = some (.int .i64 c.req) ∧ w'.cell? ⟨g1, 2, none⟩ = some (.int .i64 c.kind) ∧ w'.cell? ⟨g1, 3, none⟩ = some (.string c.queue) ∧ w'.cell? ⟨g1, 4, none⟩ = some (.int .i64 c.vis) ∧ w'.cell? ⟨g1, 5, none⟩ = some (.int .i64 c.ret) ∧ w'.cell? ⟨g1, 6, none⟩ = some (.int .i64 c.del) ∧ w'.cell? ⟨g1, 7, none⟩ = some (.int .i64 c.win) ∧ w'.cell? ⟨g1, 8, none⟩ = some (.int .i64 c.mx) ∧ w'.cell? ⟨g1, 9, none⟩ = some (.string c.dead) ∧ w'.cell? ⟨g1, 10, none⟩ = some (.bool c.fifo) ∧ w'.cell? ⟨g1, 11, none⟩ = some (.string c.body) ∧ w'.cell? ⟨g1, 12, none⟩ = some (.string c.group) ∧ w'.cell? ⟨g1, 13, none⟩ = some (.string c.key) ∧ w'.cell? ⟨g1, 14, none⟩ = some (.string c.receipt) ∧ w'.cell? ⟨g1, 15, none⟩ = some (.slice A c.bodies.length k) ∧ w'.cell? ⟨g1, 16, none⟩ = some (.int .i64 c.n) ∧ w'.cell? ⟨g1, 17, none⟩ = some (.int .i64 c.m) ∧ w'.there g2 0 18)
    (first
      | with_reducible exact HK.out
      | with_reducible exact lcmd_cells HY2.out (there_blk (n := 18) HX2.out rfl)
      | with_reducible exact lcmd_cells HY.out (there_blk (n := 18) HX.out rfl)
      | go_keep)
    (first
      | (go_at_call 19; refine (attr_any c _).mono ?_; rintro e w2 ⟨rfl, hb2⟩; have HY2 := Lib.hid (((below_drew1 (Below.refl w1.heap.size w1)).trans hb2).block _ (blk_lt HY.out) |>.trans HY.out); have HX2 := Lib.hid (((below_drew1 (Below.refl w1.heap.size w1)).trans hb2).block _ (blk_lt HX.out) |>.trans HX.out); have HB2 := Lib.hid ((below_drew1 HB.out).trans (hb2.mono HB.out.size)); have hst := run_stV w2 g2 #[.int .i64 c.client, .int .i64 c.req, .int .i64 c.kind, .string c.queue, .int .i64 c.vis, .int .i64 c.ret, .int .i64 c.del, .int .i64 c.win, .int .i64 c.mx, .string c.dead, .bool c.fifo, .string c.body, .string c.group, .string c.key, .string c.receipt, .slice A c.bodies.length k, .int .i64 c.n, .int .i64 c.m] rfl (there_blk (n := 18) HX2.out rfl) (by simp [Value.oneCell']); have HK := Lib.hid (lcmd_cells (w := w2.setCells g2 0 [.int .i64 c.client, .int .i64 c.req, .int .i64 c.kind, .string c.queue, .int .i64 c.vis, .int .i64 c.ret, .int .i64 c.del, .int .i64 c.win, .int .i64 c.mx, .string c.dead, .bool c.fifo, .string c.body, .string c.group, .string c.key, .string c.receipt, .slice A c.bodies.length k, .int .i64 c.n, .int .i64 c.m]) ((setCells_far [.int .i64 c.client, .int .i64 c.req, .int .i64 c.kind, .string c.queue, .int .i64 c.vis, .int .i64 c.ret, .int .i64 c.del, .int .i64 c.win, .int .i64 c.mx, .string c.dead, .bool c.fifo, .string c.body, .string c.group, .string c.key, .string c.receipt, .slice A c.bodies.length k, .int .i64 c.n, .int .i64 c.m] 0 g1 HG1.out.1).trans HY2.out) (World.there_setCells (there_blk (n := 18) HX2.out rfl) g2 0 [.int .i64 c.client, .int .i64 c.req, .int .i64 c.kind, .string c.queue, .int .i64 c.vis, .int .i64 c.ret, .int .i64 c.del, .int .i64 c.win, .int .i64 c.mx, .string c.dead, .bool c.fifo, .string c.body, .string c.group, .string c.key, .string c.receipt, .slice A c.bodies.length k, .int .i64 c.n, .int .i64 c.m])); clear hb2))
  clear z0 z1 z2 z3 z4 z5 z6 z7 z8 z9 z10 z11 z12 z13 z14 z15 z16 z17 zt
  go_wp2_with fail
  have hr := World.rangeAt_setCells_same w2 g2 0 [.int .i64 c.client, .int .i64 c.req, .int .i64 c.kind, .string c.queue, .int .i64 c.vis, .int .i64 c.ret, .int .i64 c.del, .int .i64 c.win, .int .i64 c.mx, .string c.dead, .bool c.fifo, .string c.body, .string c.group, .string c.key, .string c.receipt, .slice A c.bodies.length k, .int .i64 c.n, .int .i64 c.m] (there_blk (n := 18) HX2.out rfl)
  refine bodyPost_ret (v := .agg #[.int .i64 c.client, .int .i64 c.req, .int .i64 c.kind, .string c.queue, .int .i64 c.vis, .int .i64 c.ret, .int .i64 c.del, .int .i64 c.win, .int .i64 c.mx, .string c.dead, .bool c.fifo, .string c.body, .string c.group, .string c.key, .string c.receipt, .slice A c.bodies.length k, .int .i64 c.n, .int .i64 c.m]) (ret_lcmd rfl hr rfl) rfl ⟨rfl, HB2.out.trans ?_⟩
  obtain ⟨e1, e2, e3, e4⟩ := setCells_same g2 [.int .i64 c.client, .int .i64 c.req, .int .i64 c.kind, .string c.queue, .int .i64 c.vis, .int .i64 c.ret, .int .i64 c.del, .int .i64 c.win, .int .i64 c.mx, .string c.dead, .bool c.fifo, .string c.body, .string c.group, .string c.key, .string c.receipt, .slice A c.bodies.length k, .int .i64 c.n, .int .i64 c.m] 0 w2
  exact ⟨e1, e2, e3, Nat.le_of_eq e4.symm, fun i hi => setCells_far _ 0 i (by have := HG1.out.2; omega)⟩
end Go.Proofs.YtlgippliihgcjaaDoor.C
