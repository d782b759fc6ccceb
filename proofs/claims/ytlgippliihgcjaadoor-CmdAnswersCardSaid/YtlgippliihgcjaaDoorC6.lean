/- cmd.refused, cmd.Write. -/
import Derived.Test.YtlgippliihgcjaaDoorC3
import Derived.Test.YtlgippliihgcjaaDoorC5
import Derived.Test.YtlgippliihgcjaaDoorR1
namespace Go.Proofs.YtlgippliihgcjaaDoor.C
set_option linter.unusedVariables false
set_option linter.unusedSimpArgs false
open Go.RowKit Go.Proofs.YtlgippliihgcjaaDoorW.PrintWords

set_option maxHeartbeats 1000000 in
set_option maxRecDepth 100000 in
theorem refused_any (code at_ : Int) (w : World) :
    Calls Tryd.prog 30 #[.int .i64 code, .int .i64 at_] w fun e w' => ∃ v, e = .returned v ∧ ErrIs w' w.heap.size v at_ code ∧ Below w.heap.size w w' := by
  go_enter Tryd.func30, Tryd.ntmps30
  go_wp2
  go_ret
  exact ⟨_, rfl, ⟨_, rfl, Nat.le_refl _, heap_alloc_new _ _⟩, below_alloc (Below.refl _ _) _⟩

/-- Numbers, texts, one behind the other. -/
def fm (l : List Int) : List Int := l.flatMap fun n => numB n.toNat
def ft (l : List ByteArray) : List Int := l.flatMap txtB
theorem fm_snoc {l : List Int} {k : Nat} {n : Int} (h : l[k]? = some n) : fm (l.take (k + 1)) = fm (l.take k) ++ numB n.toNat := by
  rw [fm, fm, List.take_add_one, h, List.flatMap_append]; simp
theorem ft_snoc {l : List ByteArray} {k : Nat} {n : ByteArray} (h : l[k]? = some n) : ft (l.take (k + 1)) = ft (l.take k) ++ txtB n := by
  rw [ft, ft, List.take_add_one, h, List.flatMap_append]; simp
theorem fm_len {l : List Int} (h : l.all numOk = true) : (fm l).length ≤ 9 * l.length := by
  induction l with
  | nil => simp [fm]
  | cons a l ih =>
    simp only [List.all_cons, Bool.and_eq_true, numOk, decide_eq_true_eq] at h
    have h1 := numB_len' (n := a.toNat) (by omega)
    have h2 := ih h.2
    rw [fm, List.flatMap_cons, List.length_append, List.length_cons]
    rw [fm] at h2
    omega
theorem ft_len {l : List ByteArray} (h : l.all txtOk = true) : (ft l).length ≤ 265 * l.length := by
  induction l with
  | nil => simp [ft]
  | cons a l ih =>
    simp only [List.all_cons, Bool.and_eq_true, txtOk, decide_eq_true_eq] at h
    have h1 := txtB_len a (by omega)
    have h2 := ih h.2
    rw [ft, List.flatMap_cons, List.length_append, List.length_cons]
    rw [ft] at h2
    omega
theorem all_take {α : Type} {l : List α} {p : α → Bool} (h : l.all p = true) (k : Nat) : (l.take k).all p = true := by
  rw [List.all_eq_true] at h ⊢
  exact fun x hx => h x (List.mem_of_mem_take hx)
theorem fm_take_len {l : List Int} (h : l.all numOk = true) (k : Nat) : (fm (l.take k)).length ≤ 9 * l.length := by
  have := fm_len (all_take h k)
  have : (l.take k).length ≤ l.length := List.length_take_le' _ _
  omega
theorem ft_take_len {l : List ByteArray} (h : l.all txtOk = true) (k : Nat) : (ft (l.take k)).length ≤ 265 * l.length := by
  have := ft_len (all_take h k)
  have : (l.take k).length ≤ l.length := List.length_take_le' _ _
  omega

/-- A command's bytes. -/
def encB (c : Cm) : List Int := fm c.nums ++ numB (if c.fifo then 1 else 0) ++ ft c.txts ++ numB c.bodies.length ++ ft c.bodies

theorem nums_at {c : Cm} {bv : Value} {g b k : Nat} {w : World} (hg : w.heap[g]? = some (.cells #[.int .i64 c.client, .int .i64 c.req, .int .i64 c.kind, .string c.queue, .int .i64 c.vis, .int .i64 c.ret, .int .i64 c.del, .int .i64 c.win, .int .i64 c.mx, .string c.dead, .bool c.fifo, .string c.body, .string c.group, .string c.key, .string c.receipt, bv, .int .i64 (c.n + 1), .int .i64 c.m] 26 (0, 0)))
    (hb : w.heap[b]? = some (.cells #[.pointer (some ⟨g, 0, none⟩), .pointer (some ⟨g, 1, none⟩), .pointer (some ⟨g, 2, none⟩), .pointer (some ⟨g, 16, none⟩), .pointer (some ⟨g, 17, none⟩), .pointer (some ⟨g, 4, none⟩), .pointer (some ⟨g, 5, none⟩), .pointer (some ⟨g, 6, none⟩), .pointer (some ⟨g, 7, none⟩), .pointer (some ⟨g, 8, none⟩)] 77 (0, 0))) (hk : k < 10) :
    ∃ o n, w.cell? ⟨b, k, none⟩ = some (.pointer (some ⟨g, o, none⟩)) ∧ w.cell? ⟨g, o, none⟩ = some (.int .i64 n) ∧ c.nums[k]? = some n := by
  have h1 := fun i => blk_cell hg i
  have h2 := fun i => blk_cell hb i
  have : k = 0 ∨ k = 1 ∨ k = 2 ∨ k = 3 ∨ k = 4 ∨ k = 5 ∨ k = 6 ∨ k = 7 ∨ k = 8 ∨ k = 9 := by omega
  rcases this with rfl | rfl | rfl | rfl | rfl | rfl | rfl | rfl | rfl | rfl <;> exact ⟨_, _, (h2 _).trans rfl, (h1 _).trans rfl, rfl⟩
theorem txts_at {c : Cm} {bv : Value} {g b k : Nat} {w : World} (hg : w.heap[g]? = some (.cells #[.int .i64 c.client, .int .i64 c.req, .int .i64 c.kind, .string c.queue, .int .i64 c.vis, .int .i64 c.ret, .int .i64 c.del, .int .i64 c.win, .int .i64 c.mx, .string c.dead, .bool c.fifo, .string c.body, .string c.group, .string c.key, .string c.receipt, bv, .int .i64 (c.n + 1), .int .i64 c.m] 26 (0, 0)))
    (hb : w.heap[b]? = some (.cells #[.pointer (some ⟨g, 3, none⟩), .pointer (some ⟨g, 9, none⟩), .pointer (some ⟨g, 11, none⟩), .pointer (some ⟨g, 12, none⟩), .pointer (some ⟨g, 13, none⟩), .pointer (some ⟨g, 14, none⟩)] 81 (0, 0))) (hk : k < 6) :
    ∃ o n, w.cell? ⟨b, k, none⟩ = some (.pointer (some ⟨g, o, none⟩)) ∧ w.cell? ⟨g, o, none⟩ = some (.string n) ∧ c.txts[k]? = some n := by
  have h1 := fun i => blk_cell hg i
  have h2 := fun i => blk_cell hb i
  have : k = 0 ∨ k = 1 ∨ k = 2 ∨ k = 3 ∨ k = 4 ∨ k = 5 := by omega
  rcases this with rfl | rfl | rfl | rfl | rfl | rfl <;> exact ⟨_, _, (h2 _).trans rfl, (h1 _).trans rfl, rfl⟩

theorem cmd_cells {w : World} {g : Nat} {c : Cm} {bv : Value} {nv : Int} (h : w.heap[g]? = some (.cells #[.int .i64 c.client, .int .i64 c.req, .int .i64 c.kind, .string c.queue, .int .i64 c.vis, .int .i64 c.ret, .int .i64 c.del, .int .i64 c.win, .int .i64 c.mx, .string c.dead, .bool c.fifo, .string c.body, .string c.group, .string c.key, .string c.receipt, bv, .int .i64 nv, .int .i64 c.m] 26 (0, 0))) :
    w.cell? ⟨g, 0, none⟩ = some (.int .i64 c.client) ∧ w.cell? ⟨g, 1, none⟩ = some (.int .i64 c.req) ∧ w.cell? ⟨g, 2, none⟩ = some (.int .i64 c.kind) ∧ w.cell? ⟨g, 3, none⟩ = some (.string c.queue) ∧ w.cell? ⟨g, 4, none⟩ = some (.int .i64 c.vis) ∧ w.cell? ⟨g, 5, none⟩ = some (.int .i64 c.ret) ∧ w.cell? ⟨g, 6, none⟩ = some (.int .i64 c.del) ∧ w.cell? ⟨g, 7, none⟩ = some (.int .i64 c.win) ∧ w.cell? ⟨g, 8, none⟩ = some (.int .i64 c.mx) ∧ w.cell? ⟨g, 9, none⟩ = some (.string c.dead) ∧ w.cell? ⟨g, 10, none⟩ = some (.bool c.fifo) ∧ w.cell? ⟨g, 11, none⟩ = some (.string c.body) ∧ w.cell? ⟨g, 12, none⟩ = some (.string c.group) ∧ w.cell? ⟨g, 13, none⟩ = some (.string c.key) ∧ w.cell? ⟨g, 14, none⟩ = some (.string c.receipt) ∧ w.cell? ⟨g, 15, none⟩ = some (bv) ∧ w.cell? ⟨g, 16, none⟩ = some (.int .i64 nv) ∧ w.cell? ⟨g, 17, none⟩ = some (.int .i64 c.m) := by
  have h1 := fun i => blk_cell h i
  exact ⟨(h1 _).trans rfl, (h1 _).trans rfl, (h1 _).trans rfl, (h1 _).trans rfl, (h1 _).trans rfl, (h1 _).trans rfl, (h1 _).trans rfl, (h1 _).trans rfl, (h1 _).trans rfl, (h1 _).trans rfl, (h1 _).trans rfl, (h1 _).trans rfl, (h1 _).trans rfl, (h1 _).trans rfl, (h1 _).trans rfl, (h1 _).trans rfl, (h1 _).trans rfl, (h1 _).trans rfl⟩

theorem right_is (c : Cm) (q : Bool) (hr : right c = q) (A : Option Addr) (k : Nat) (w : World) (hC : Kd.string.C w A c.bodies.length c.bodies) :
    Calls Tryd.prog 13 #[.agg #[.int .i64 c.client, .int .i64 c.req, .int .i64 c.kind, .string c.queue, .int .i64 c.vis, .int .i64 c.ret, .int .i64 c.del, .int .i64 c.win, .int .i64 c.mx, .string c.dead, .bool c.fifo, .string c.body, .string c.group, .string c.key, .string c.receipt, .slice A c.bodies.length k, .int .i64 c.n, .int .i64 c.m]] w fun e w' => e = .returned (.bool q) ∧ Below w.heap.size w w' := by
  rw [← hr]; exact right_any c A k w hC

set_option maxHeartbeats 4000000 in
set_option maxRecDepth 100000 in
theorem write_no (c : Cm) (A : Option Addr) (k : Nat) (w : World) (hC : Kd.string.C w A c.bodies.length c.bodies) (hr : right c = false) :
    Calls Tryd.prog 10 #[.agg #[.int .i64 c.client, .int .i64 c.req, .int .i64 c.kind, .string c.queue, .int .i64 c.vis, .int .i64 c.ret, .int .i64 c.del, .int .i64 c.win, .int .i64 c.mx, .string c.dead, .bool c.fifo, .string c.body, .string c.group, .string c.key, .string c.receipt, .slice A c.bodies.length k, .int .i64 c.n, .int .i64 c.m]] w fun e w' => ∃ v, e = .returned (.tuple #[.slice none 0 0, v]) ∧ ErrIs w' w.heap.size v 0 1 ∧ Below w.heap.size w w' := by
  have HC := Lib.hid hC
  have HR := Lib.hid hr
  clear hC hr
  go_enter Tryd.func10, Tryd.ntmps10
  go_wp2_with (first
    | ((with_reducible refine gate_dst (N := 1) rfl ?_); refine box_event ?hg (N := 1) ?hd (cs := #[.int .i64 c.client, .int .i64 c.req, .int .i64 c.kind, .string c.queue, .int .i64 c.vis, .int .i64 c.ret, .int .i64 c.del, .int .i64 c.win, .int .i64 c.mx, .string c.dead, .bool c.fifo, .string c.body, .string c.group, .string c.key, .string c.receipt, .slice A c.bodies.length k, .int .i64 c.n, .int .i64 c.m]) (t := 26) ?hr ?_; (case hd => rfl); (case hg => rfl); (case hr => first | (go_simp; done) | (go_simp; rfl)); intro g hg w1 hbox hb; have HG := Lib.hid hg; have HB := Lib.hid hb; have HX := Lib.hid hbox; clear hg hbox hb)
    | ((with_reducible refine gate_dst (N := 12) rfl ?_); refine wpList_load_row rfl 26 (.tmp 1) rfl g rfl 26 #[.int .i64 c.client, .int .i64 c.req, .int .i64 c.kind, .string c.queue, .int .i64 c.vis, .int .i64 c.ret, .int .i64 c.del, .int .i64 c.win, .int .i64 c.mx, .string c.dead, .bool c.fifo, .string c.body, .string c.group, .string c.key, .string c.receipt, .slice A c.bodies.length k, .int .i64 c.n, .int .i64 c.m] (0, 0) _ HX.out Tryd.underlying26 rfl (by kernel_rfl) ?_))
  refine (right_is c false HR.out A k _ (Kd.C_below HC.out HB.out)).mono ?_
  rintro e w2 ⟨rfl, hb⟩
  have HB := Lib.hid (HB.out.trans (hb.mono HB.out.size))
  clear hb
  go_wp2_with fail
  refine (refused_any 1 0 _).mono ?_
  rintro e w2 ⟨v, rfl, he, hb2⟩
  have HE := Lib.hid (he.lower HB.out.size)
  have HB2 := Lib.hid (HB.out.trans (hb2.mono HB.out.size))
  clear he hb2
  go_wp2_with fail
  go_ret2
  exact ⟨_, rfl, HE.out, HB2.out⟩

theorem all_at {α : Type} {l : List α} {p : α → Bool} (h : l.all p = true) {k : Nat} {x : α} (hx : l[k]? = some x) : p x = true := List.all_eq_true.1 h x (List.mem_of_getElem? hx)
theorem numOk_iff {n : Int} (h : numOk n = true) : 0 ≤ n ∧ n ≤ 4611686018427387904 := by simpa [numOk] using h
theorem txtOk_iff {s : ByteArray} (h : txtOk s = true) : s.size ≤ 256 := by simpa [txtOk] using h

theorem right_n {c : Cm} (h : right c = true) : -1 ≤ c.n ∧ c.n < 4611686018427387904 ∧ c.nums.all numOk = true ∧ c.txts.all txtOk = true ∧ c.bodies.length ≤ 10 ∧ c.bodies.all txtOk = true := by
  simp only [right, Bool.and_eq_true, decide_eq_true_eq] at h
  exact ⟨h.1.1, h.1.2, h.2.1, h.2.2.1, h.2.2.2.1, h.2.2.2.2⟩

set_option maxHeartbeats 4000000 in
set_option maxRecDepth 100000 in
theorem write_yes (c : Cm) (A : Option Addr) (kc : Nat) (w : World) (hC : Kd.string.C w A c.bodies.length c.bodies) (hr : right c = true) :
    Calls Tryd.prog 10 #[.agg #[.int .i64 c.client, .int .i64 c.req, .int .i64 c.kind, .string c.queue, .int .i64 c.vis, .int .i64 c.ret, .int .i64 c.del, .int .i64 c.win, .int .i64 c.mx, .string c.dead, .bool c.fifo, .string c.body, .string c.group, .string c.key, .string c.receipt, .slice A c.bodies.length kc, .int .i64 c.n, .int .i64 c.m]] w fun e w' => ∃ v, e = .returned (.tuple #[v, .nilIface]) ∧ BOwn w' w.heap.size v (encB c) ∧ Below w.heap.size w w' := by
  obtain ⟨hn0, hn1, hnn, htt, hbl, hbb⟩ := right_n hr
  have HC := Lib.hid hC
  have HR := Lib.hid hr
  have HNN := Lib.hid hnn
  have HTT := Lib.hid htt
  have HBB := Lib.hid hbb
  clear hC hr hnn htt hbb
  go_enter Tryd.func10, Tryd.ntmps10
  go_wp2_with (first
    | ((with_reducible refine gate_dst (N := 1) rfl ?_); refine box_event ?hg (N := 1) ?hd (cs := #[.int .i64 c.client, .int .i64 c.req, .int .i64 c.kind, .string c.queue, .int .i64 c.vis, .int .i64 c.ret, .int .i64 c.del, .int .i64 c.win, .int .i64 c.mx, .string c.dead, .bool c.fifo, .string c.body, .string c.group, .string c.key, .string c.receipt, .slice A c.bodies.length kc, .int .i64 c.n, .int .i64 c.m]) (t := 26) ?hr ?_; (case hd => rfl); (case hg => rfl); (case hr => first | (go_simp; done) | (go_simp; rfl)); intro g hg w1 hbox hb; have HG := Lib.hid hg; have HB := Lib.hid hb; have HX := Lib.hid hbox; clear hg hbox hb)
    | ((with_reducible refine gate_dst (N := 12) rfl ?_); refine wpList_load_row rfl 26 (.tmp 1) rfl g rfl 26 #[.int .i64 c.client, .int .i64 c.req, .int .i64 c.kind, .string c.queue, .int .i64 c.vis, .int .i64 c.ret, .int .i64 c.del, .int .i64 c.win, .int .i64 c.mx, .string c.dead, .bool c.fifo, .string c.body, .string c.group, .string c.key, .string c.receipt, .slice A c.bodies.length kc, .int .i64 c.n, .int .i64 c.m] (0, 0) _ HX.out Tryd.underlying26 rfl (by kernel_rfl) ?_))
  refine (right_is c true HR.out A kc _ (Kd.C_below HC.out HB.out)).mono ?_
  rintro e w2 ⟨rfl, hb⟩
  have HX2 := Lib.hid ((hb.block g (blk_lt HX.out)).trans HX.out)
  have HB2 := Lib.hid (HB.out.trans (hb.mono HB.out.size))
  have HGB : Hid (w.heap.size ≤ g) := Nat.le_of_eq HG.out.symm
  clear hb HX HB HG
  have z16 : w2.cell? ⟨g, 16, none⟩ = some (.int .i64 c.n) := (blk_cell HX2.out 16).trans rfl
  have zf := blk_frozen HX2.out 16
  go_wp2_with fail
  clear z16 zf
  have HX3 : Hid ((w2.setCell ⟨g, 16, none⟩ (.int .i64 (c.n + 1))).heap[g]? = some (.cells #[.int .i64 c.client, .int .i64 c.req, .int .i64 c.kind, .string c.queue, .int .i64 c.vis, .int .i64 c.ret, .int .i64 c.del, .int .i64 c.win, .int .i64 c.mx, .string c.dead, .bool c.fifo, .string c.body, .string c.group, .string c.key, .string c.receipt, .slice A c.bodies.length kc, .int .i64 (c.n + 1), .int .i64 c.m] 26 (0, 0))) := blk_set HX2.out 16 _
  have HB3 := Lib.hid (HB2.out.setCell (p := ⟨g, 16, none⟩) HGB.out (.int .i64 (c.n + 1)))
  generalize w2.setCell ⟨g, 16, none⟩ (.int .i64 (c.n + 1)) = w3 at HX3 HB3 ⊢
  clear HX2 HB2 w2
  refine (numbers_any g w3).mono ?_
  rintro e w4 ⟨b, rfl, hb0, hb4, hbb⟩
  have HX4 := Lib.hid ((hb4.block g (blk_lt HX3.out)).trans HX3.out)
  have HP4 := Lib.hid hbb
  have HB4 := Lib.hid (HB3.out.trans (hb4.mono HB3.out.size))
  clear hb0 hb4 hbb HX3 HB3
  go_wp2_with fail
  go_loopw [4, 22] (fun v i wr => ∃ k : Nat, k ≤ 10 ∧ i = .int .i64 k ∧ Hid (BOwn wr w.heap.size v (fm (c.nums.take k))) ∧ Hid (Below w4.heap.size w4 wr)) (fun _ i _ => 10 - (intOf i).toNat)
  case atStart => exact ⟨0, by omega, rfl, Lib.hid (BOwn.nil _ _), Lib.hid (Below.refl _ _)⟩
  case round =>
    obtain ⟨k, hk, rfl, HV, HW⟩ := hrel
    by_cases hlt : k < 10
    · obtain ⟨o, n, hp, hv, hx⟩ := nums_at HX4.out HP4.out hlt
      have hpc := pw_cell_below HW.out hp
      have hvc := pw_cell_below HW.out hv
      have HN := Lib.hid hx
      obtain ⟨n0, n1⟩ := numOk_iff (all_at HNN.out hx)
      have hl := fm_take_len HNN.out k
      have hl10 : c.nums.length = 10 := rfl
      have HL : Hid ((fm (c.nums.take k)).length ≤ 70368744177664) := Lib.hid (by omega)
      clear hp hv hx hl hl10
      go_wp2_with fail
      refine (num_own _ _ _ n _ HV.out HL.out n0 (by omega)).mono ?_
      rintro e w5 ⟨v2, rfl, ho, hb⟩
      have hbs := HW.out.size
      have HO := Lib.hid (ho.lower (Nat.le_trans HB4.out.size HW.out.size))
      have HW5 := Lib.hid (HW.out.trans (hb.mono hbs))
      clear ho hb hbs
      go_wp2_with fail
      go_roundw
      case rel => exact ⟨k + 1, by omega, by go_num, by rw [fm_snoc HN.out]; exact HO, HW5⟩
      case measure => simp [intOf]; omega
    · obtain rfl : k = 10 := by omega
      have HX5 := Lib.hid ((HW.out.block g (blk_lt HX4.out)).trans HX4.out)
      have HB5 := Lib.hid (HB4.out.trans (HW.out.mono HB4.out.size))
      have HV5 : Hid (BOwn wr w.heap.size u4 (fm c.nums)) := HV
      clear HV HW HX4 HB4 HP4
      obtain ⟨q, hq⟩ : ∃ q, c.fifo = q := ⟨_, rfl⟩
      have z10 : wr.cell? ⟨g, 10, none⟩ = some (.bool q) := by rw [← hq]; exact (blk_cell HX5.out 10).trans rfl
      have HQ := Lib.hid hq
      clear hq
      have hl := fm_len HNN.out
      have hl10 : c.nums.length = 10 := rfl
      have hlx : (fm c.nums).length ≤ 90 := by omega
      clear hl hl10
      cases q
      all_goals
        go_wp2_with fail
        clear z10
        refine (num_own _ _ _ _ _ HV5.out (by omega) (by omega) (by omega)).mono ?_
        rintro e w6 ⟨v2, rfl, ho, hb⟩
        have HV6 : Hid (BOwn w6 w.heap.size v2 (fm c.nums ++ numB (if c.fifo then 1 else 0))) := Lib.hid (by rw [HQ.out]; exact ho.lower HB5.out.size)
        have HX6 := Lib.hid ((hb.block g (blk_lt HX5.out)).trans HX5.out)
        have HB6 := Lib.hid (HB5.out.trans (hb.mono HB5.out.size))
        clear ho hb HV5 HX5 HB5
        go_wp2_with fail
        refine (texts_any g w6).mono ?_
        rintro e w7 ⟨b2, rfl, hb0, hb7, hbb⟩
        have HX7 := Lib.hid ((hb7.block g (blk_lt HX6.out)).trans HX6.out)
        have HP7 := Lib.hid hbb
        have HV7 := Lib.hid (HV6.out.below hb7)
        have HB7 := Lib.hid (HB6.out.trans (hb7.mono HB6.out.size))
        clear hb0 hb7 hbb HX6 HB6 HV6
        go_wp2_with fail
        go_loopw [4, 40] (fun v i wr => ∃ k : Nat, k ≤ 6 ∧ i = .int .i64 k ∧ Hid (BOwn wr w.heap.size v (fm c.nums ++ numB (if c.fifo then 1 else 0) ++ ft (c.txts.take k))) ∧ Hid (Below w7.heap.size w7 wr)) (fun _ i _ => 6 - (intOf i).toNat)
        case atStart => exact ⟨0, by omega, rfl, Lib.hid (by simpa [ft] using HV7.out), Lib.hid (Below.refl _ _)⟩
        case round =>
          obtain ⟨k, hk, rfl, HV, HW⟩ := hrel
          by_cases hlt : k < 6
          · obtain ⟨o, n, hp, hv, hx⟩ := txts_at HX7.out HP7.out hlt
            have hpc := pw_cell_below HW.out hp
            have hvc := pw_cell_below HW.out hv
            have HN := Lib.hid hx
            have n0 := txtOk_iff (all_at HTT.out hx)
            have hl := ft_take_len HTT.out k
            have hl10 : c.txts.length = 6 := rfl
            have hlq := numB_len' (n := if c.fifo then 1 else 0) (by split <;> omega)
            have HL : Hid ((fm c.nums ++ numB (if c.fifo then 1 else 0) ++ ft (c.txts.take k)).length ≤ 70368744177664) := Lib.hid (by rw [List.length_append, List.length_append]; omega)
            clear hp hv hx hl hl10 hlq
            go_wp2_with fail
            refine (text_own _ _ _ n _ HV.out HL.out (by omega)).mono ?_
            rintro e w8 ⟨v3, rfl, ho, hb⟩
            have hbs := HW.out.size
            have HO := Lib.hid (ho.lower (Nat.le_trans HB7.out.size HW.out.size))
            have HW8 := Lib.hid (HW.out.trans (hb.mono hbs))
            clear ho hb hbs
            go_wp2_with fail
            go_roundw
            case rel => exact ⟨k + 1, by omega, by go_num, Lib.hid (by rw [ft_snoc HN.out, ← List.append_assoc]; exact HO.out), HW8⟩
            case measure => simp [intOf]; omega
          · obtain rfl : k = 6 := by omega
            have HX9 := Lib.hid ((HW.out.block g (blk_lt HX7.out)).trans HX7.out)
            have HB9 := Lib.hid (HB7.out.trans (HW.out.mono HB7.out.size))
            have HV9 : Hid (BOwn _ w.heap.size _ (fm c.nums ++ numB (if c.fifo then 1 else 0) ++ ft c.txts)) := HV
            clear HV HW HX7 HB7 HP7
            have hl := ft_len HTT.out
            have hl10 : c.txts.length = 6 := rfl
            have hlq := numB_len' (n := if c.fifo then 1 else 0) (by split <;> omega)
            have hlx2 : (fm c.nums ++ numB (if c.fifo then 1 else 0) ++ ft c.txts).length ≤ 1700 := by rw [List.length_append, List.length_append]; omega
            clear hl hl10 hlq
            have z15 : wr.cell? ⟨g, 15, none⟩ = some (.slice A c.bodies.length kc) := (blk_cell HX9.out 15).trans rfl
            go_wp2_with fail
            refine (num_own _ _ _ _ _ HV9.out (by omega) (by omega) (by omega)).mono ?_
            rintro e w10 ⟨v4, rfl, ho, hb⟩
            have HV10 : Hid (BOwn w10 w.heap.size v4 (fm c.nums ++ numB (if c.fifo then 1 else 0) ++ ft c.txts ++ numB c.bodies.length)) := Lib.hid (ho.lower HB9.out.size)
            have hX10 := (hb.block g (blk_lt HX9.out)).trans HX9.out
            have z15b : w10.cell? ⟨g, 15, none⟩ = some (.slice A c.bodies.length kc) := (blk_cell hX10 15).trans rfl
            have HB10 := Lib.hid (HB9.out.trans (hb.mono HB9.out.size))
            have hlq := numB_len' (n := c.bodies.length) (by omega)
            have hlx3 : (fm c.nums ++ numB (if c.fifo then 1 else 0) ++ ft c.txts ++ numB c.bodies.length).length ≤ 1800 := by rw [List.length_append]; omega
            clear ho hb HV9 HX9 HB9 hX10 z15 hlq
            go_wp2_with fail
            clear z15b
            have HCC := Lib.hid (cells_C HC.out)
            go_loopw [4, 58] (fun v i wr => ∃ k : Nat, k ≤ c.bodies.length ∧ i = .int .i64 k ∧ Hid (BOwn wr w.heap.size v (fm c.nums ++ numB (if c.fifo then 1 else 0) ++ ft c.txts ++ numB c.bodies.length ++ ft (c.bodies.take k))) ∧ Hid (Below w.heap.size w wr)) (fun _ i _ => c.bodies.length - (intOf i).toNat)
            case atStart => exact ⟨0, by omega, rfl, Lib.hid (by simpa [ft] using HV10.out), HB10⟩
            case round =>
              obtain ⟨k, hk, rfl, HV, HW⟩ := hrel
              by_cases hlt : k < c.bodies.length
              · obtain ⟨ad, x, rfl, hcell, hx⟩ := cells_at HCC.out HW.out (k := k) (by rw [List.length_map]; exact hlt)
                rw [List.getElem?_map, Option.map_eq_some_iff] at hx
                obtain ⟨sx, hx, rfl⟩ := hx
                have HN := Lib.hid hx
                have n0 := txtOk_iff (all_at HBB.out hx)
                have hl := ft_take_len HBB.out k
                have HL : Hid ((fm c.nums ++ numB (if c.fifo then 1 else 0) ++ ft c.txts ++ numB c.bodies.length ++ ft (c.bodies.take k)).length ≤ 70368744177664) := Lib.hid (by rw [List.length_append]; omega)
                clear hx hl
                go_wp2_with fail
                refine (text_own _ _ _ sx _ HV.out HL.out (by omega)).mono ?_
                rintro e w11 ⟨v5, rfl, ho, hb⟩
                have hbs := HW.out.size
                have HO := Lib.hid (ho.lower hbs)
                have HW11 := Lib.hid (HW.out.trans (hb.mono hbs))
                clear ho hb hbs
                go_wp2_with fail
                go_roundw
                case rel => exact ⟨k + 1, by omega, by go_num, Lib.hid (by rw [ft_snoc HN.out, ← List.append_assoc]; exact HO.out), HW11⟩
                case measure => simp [intOf]; omega
              · obtain rfl : k = c.bodies.length := by omega
                have HV12 : Hid (BOwn _ w.heap.size _ (encB c)) := Lib.hid (by rw [encB, ← List.take_length (l := c.bodies)]; simpa using HV.out)
                go_wp2_with fail
                go_ret2
                exact ⟨_, rfl, HV12.out, HW.out⟩

end Go.Proofs.YtlgippliihgcjaaDoor.C
