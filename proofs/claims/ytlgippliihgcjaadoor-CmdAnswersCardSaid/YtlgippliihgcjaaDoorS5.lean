/- The document's word on which commands may be written. -/
import Derived.Test.YtlgippliihgcjaaDoorS4
import Derived.Deep.RegionLaw
namespace Go.Proofs.YtlgippliihgcjaaDoor.C
set_option linter.unusedVariables false
set_option linter.unusedSimpArgs false
open Go.RowKit Go.Proofs.YtlgippliihgcjaaDoorW.PrintWords

section
variable {P : Program} {α : Type}
/-- A row is appended to a row of one's own. -/
theorem run_append_row {W : World} (enc : α → Value) (d : α) (base : Nat) (t e ty : TypeId) (z : Value) (bytes : Nat)
    (ht : P.underlying t = some (.slice e)) (hinfo : (P.info? e).map (fun i => (i.zero, i.size, i.bytes)) = some (some z, 1, bytes)) (hz : z.cells.size = 1) (hb0 : 0 < bytes) (h1 : ∀ x : α, (enc x).oneCell' = true)
    (v : Value) (xs ys : List α) (A : Option Addr) (m c : Nat)
    (HO : W.ownsRow base e 1 v xs.length (encs enc xs)) (HR : ReadsOf enc d W A m ys) (hbase : base ≤ W.heap.size) (hl : (xs.length + m) * bytes ≤ 140737488355328) :
    ∃ v1 w1, (Builtin.append_ #[t, t] ty #[v, .slice A m c]).run P W = .ok v1 w1 ∧ w1.ownsRow base e 1 v1 (xs ++ ys).length (encs enc (xs ++ ys)) ∧ W.grownBy w1 v.ownBlock := by
  obtain ⟨i0, hi, hzz⟩ := Option.map_eq_some_iff.1 hinfo
  simp only [Prod.mk.injEq] at hzz
  obtain ⟨hz0, hz1, hz2⟩ := hzz
  have hm : ys.length = m := HR.1
  have hlen : xs.length + m ≤ 140737488355328 := Nat.le_trans (Nat.le_mul_of_pos_right _ hb0) hl
  rcases A with _ | ad
  · have h0 : m = 0 := by
      rcases Nat.eq_zero_or_pos m with h0 | h0
      · exact h0
      · obtain ⟨ad, h, _⟩ := HR.2.2 h0
        cases h
    subst h0
    obtain rfl : ys = [] := List.eq_nil_of_length_eq_zero hm
    refine ⟨v, W, ?_, by simpa using HO, World.grownBy.refl W _⟩
    rcases HO.2 with ⟨rfl, hn⟩ | ⟨g, cap, cur, rfl, _, _, hnc, _⟩
    · simp [Builtin.append_, run_underlying ht, sizeOf, typeInfo, hi, Builtin.lenOf, Builtin.firstCells]
    · simp [Builtin.append_, run_underlying ht, sizeOf, typeInfo, hi, Builtin.lenOf, Builtin.firstCells, hnc, storeCells]
  · have hcells : ∀ j u, (encs enc ys)[j]? = some u → W.cell? (ad.add j) = some u := by
      intro j u hu
      have hj : j < ys.length := by
        rcases Nat.lt_or_ge j ys.length with h | h
        · exact h
        · simp [encs, List.getElem?_eq_none h] at hu
      obtain ⟨ad', h', hc⟩ := HR.2.2 (by omega)
      injection h' with h'
      subst h'
      rw [encs_get (d := d) ys j hj] at hu
      rw [← hu]
      exact hc j (by omega)
    obtain ⟨v1, w1, hr, h2, h3, _, _⟩ := run_append_own_at (P := P) W base t ty e i0 z 1 bytes ht hi hz0 hz1 hz2 hz (by omega) v xs.length (encs enc xs) HO ad m c (encs enc ys) (by simp [encs, hm]) hcells
      (by intro u hu; simp only [encs, List.mem_map] at hu; obtain ⟨q, _, rfl⟩ := hu; exact h1 q) (by simp only [maxLen]; omega) hl hbase
    exact ⟨v1, w1, hr, by simpa [encs, hm] using h2, h3⟩

/-- The same at a step of a region that draws its order. -/
theorem step_append_row {ops : Array Oper} {o : Oper} {a : Act} {K : Act → World → Prop} {Q : Exit → Act → World → Prop} {E : Prop} {w0 W : World} (enc : α → Value) (d : α) (base : Nat) (hw : Region.wanted o (yielded ops a.tmps) = true) (s x : Operand) (t e : TypeId) (z : Value) (bytes : Nat)
    (ho : o.op = .call { callee := .builtin .append, args := #[s, x], argTypes := #[t, t] })
    (ht : P.underlying t = some (.slice e)) (hinfo : (P.info? e).map (fun i => (i.zero, i.size, i.bytes)) = some (some z, 1, bytes)) (hz : z.cells.size = 1) (hb0 : 0 < bytes) (h1 : ∀ x : α, (enc x).oneCell' = true)
    (v : Value) (xs ys : List α) (A : Option Addr) (m c : Nat) (hs : a.eval s = v) (hx : a.eval x = .slice A m c)
    (HO : W.ownsRow base e 1 v xs.length (encs enc xs)) (HR : ReadsOf enc d W A m ys) (HB : Below base w0 W) (hbase : base ≤ W.heap.size) (hl : (xs.length + m) * bytes ≤ 140737488355328)
    (h : ∀ v1 w1, w1.ownsRow base e 1 v1 (xs ++ ys).length (encs enc (xs ++ ys)) → Below base w0 w1 → W.grownBy w1 v.ownBlock → K (a.put o.dst v1) w1) :
    if Region.wanted o (yielded ops a.tmps) = true then Oper.wp P o a W K Q else E := by
  obtain ⟨v1, w1, hr, hown, hg⟩ := run_append_row (P := P) enc d base t e o.type z bytes ht hinfo hz hb0 h1 v xs ys A m c HO HR hbase hl
  rw [if_pos hw]
  unfold Oper.wp execOp
  simp only [ho, resolve, invoke, builtin, Sem.run_bind, Sem.run_pure, Result.andThen_ok, List.map_toArray, List.map_cons, List.map_nil, hs, hx, hr]
  exact h v1 w1 hown (HB.grown hg hbase (own_base HO)) hg
end

theorem most_any (w : World) : Calls Tryd.prog 35 #[] w fun e w' => e = .returned (.int .i64 4611686018427387904) ∧ w' = w := by
  go_enter Tryd.func35, Tryd.ntmps35
  go_wp2
  go_ret
  exact ⟨rfl, rfl⟩

/-- A command is loaded. -/
def ldR (x : Value) : Sem Value := Instr.loadAt 37 x
theorem loadAt_ldR (x : Value) : Instr.loadAt 37 x = ldR x := rfl
theorem ldR_of {w : World} {g : Nat} {c : Cm} {bv : Value} (h : w.heap[g]? = some (.cells #[.int .i64 c.client, .int .i64 c.req, .int .i64 c.kind, .string c.queue, .int .i64 c.vis, .int .i64 c.ret, .int .i64 c.del, .int .i64 c.win, .int .i64 c.mx, .string c.dead, .bool c.fifo, .string c.body, .string c.group, .string c.key, .string c.receipt, bv, .int .i64 c.n, .int .i64 c.m] 37 (0, 0))) :
    (ldR (.pointer (some ⟨g, 0, none⟩))).run Tryd.prog w = .ok (.agg #[.int .i64 c.client, .int .i64 c.req, .int .i64 c.kind, .string c.queue, .int .i64 c.vis, .int .i64 c.ret, .int .i64 c.del, .int .i64 c.win, .int .i64 c.mx, .string c.dead, .bool c.fifo, .string c.body, .string c.group, .string c.key, .string c.receipt, bv, .int .i64 c.n, .int .i64 c.m]) w := by
  have hi : (Tryd.prog.info? 37).map (·.size) = some (#[.int .i64 c.client, .int .i64 c.req, .int .i64 c.kind, .string c.queue, .int .i64 c.vis, .int .i64 c.ret, .int .i64 c.del, .int .i64 c.win, .int .i64 c.mx, .string c.dead, .bool c.fifo, .string c.body, .string c.group, .string c.key, .string c.receipt, bv, .int .i64 c.n, .int .i64 c.m] : Array Value).size := by kernel_rfl
  unfold ldR
  simp only [Instr.loadAt, Instr.sureAddr, Sem.run_bind, Sem.run_pure, Result.andThen_ok, run_loadVar_row w g 37 37 _ (0, 0) _ h Tryd.underlying37 rfl hi]

set_option maxHeartbeats 4000000 in
set_option maxRecDepth 100000 in
theorem tright_low (c : Cm) (bv : Value) (w : World) (h0 : c.n < -1) :
    Calls Tryd.prog 12 #[.agg #[.int .i64 c.client, .int .i64 c.req, .int .i64 c.kind, .string c.queue, .int .i64 c.vis, .int .i64 c.ret, .int .i64 c.del, .int .i64 c.win, .int .i64 c.mx, .string c.dead, .bool c.fifo, .string c.body, .string c.group, .string c.key, .string c.receipt, bv, .int .i64 c.n, .int .i64 c.m]] w fun e w' => e = .returned (.bool false) ∧ Below w.heap.size w w' := by
  have hn : decide (c.n < -1) = true := decide_eq_true h0
  go_enter Tryd.func12, Tryd.ntmps12
  go_wp2_with fail
  go_quiet (fail)
  go_wp2_with fail
  go_ret
  exact ⟨rfl, pw_below_drewN (below_alloc (Below.refl _ _) _) _⟩

set_option maxHeartbeats 4000000 in
set_option maxRecDepth 100000 in
theorem tright_high (c : Cm) (bv : Value) (w : World) (h0 : -1 ≤ c.n) (h1 : 4611686018427387903 < c.n) :
    Calls Tryd.prog 12 #[.agg #[.int .i64 c.client, .int .i64 c.req, .int .i64 c.kind, .string c.queue, .int .i64 c.vis, .int .i64 c.ret, .int .i64 c.del, .int .i64 c.win, .int .i64 c.mx, .string c.dead, .bool c.fifo, .string c.body, .string c.group, .string c.key, .string c.receipt, bv, .int .i64 c.n, .int .i64 c.m]] w fun e w' => e = .returned (.bool false) ∧ Below w.heap.size w w' := by
  have hn : decide (c.n < -1) = false := decide_eq_false (by omega)
  go_enter Tryd.func12, Tryd.ntmps12
  go_wp2_with fail
  go_quiet ((go_at_call 35; exact Calls.quiet_of_same (most_any _)))
  go_wp2_with fail
  go_ret
  exact ⟨rfl, pw_below_drewN (below_alloc (Below.refl _ _) _) _⟩

set_option maxHeartbeats 4000000 in
set_option maxRecDepth 100000 in
theorem tright_many (c : Cm) (A : Option Addr) (k : Nat) (w : World) (h0 : -1 ≤ c.n) (h1 : c.n ≤ 4611686018427387903) (h2 : 10 < c.bodies.length) :
    Calls Tryd.prog 12 #[.agg #[.int .i64 c.client, .int .i64 c.req, .int .i64 c.kind, .string c.queue, .int .i64 c.vis, .int .i64 c.ret, .int .i64 c.del, .int .i64 c.win, .int .i64 c.mx, .string c.dead, .bool c.fifo, .string c.body, .string c.group, .string c.key, .string c.receipt, .slice A c.bodies.length k, .int .i64 c.n, .int .i64 c.m]] w fun e w' => e = .returned (.bool false) ∧ Below w.heap.size w w' := by
  have hn : decide (c.n < -1) = false := decide_eq_false (by omega)
  have hn2 : decide ((4611686018427387903 : Int) < c.n) = false := decide_eq_false (by omega)
  go_enter Tryd.func12, Tryd.ntmps12
  go_wp2_with fail
  go_quiet ((go_at_call 35; exact Calls.quiet_of_same (most_any _)))
  go_wp2_with fail
  go_ret
  exact ⟨rfl, pw_below_drewN (below_alloc (Below.refl _ _) _) _⟩

theorem all_snoc {α : Type} {p : α → Bool} {l : List α} {k : Nat} {x : α} (h : (l.take k).all p = true) (hx : l[k]? = some x) (hp : p x = true) : (l.take (k + 1)).all p = true := by
  rw [List.take_add_one, hx, List.all_append, h]
  simp [hp]
theorem all_no {α : Type} {p : α → Bool} {l : List α} {k : Nat} {x : α} (hx : l[k]? = some x) (hp : p x = false) : l.all p = false := by
  apply Bool.eq_false_iff.2
  intro h
  have := List.all_eq_true.1 h x (List.mem_of_getElem? hx)
  rw [hp] at this
  exact absurd this (by decide)
/-- The numbers of a command, fifo with them. -/
def Cm.numsF (c : Cm) : List Int := c.nums ++ [if c.fifo then 1 else 0]
theorem numsF_all (c : Cm) : c.numsF.all numOk = c.nums.all numOk := by
  unfold Cm.numsF
  rw [List.all_append]
  cases c.fifo <;> simp [numOk]
theorem iown_at {w w1 : World} {base : Nat} {A : Option Addr} {n c : Nat} {l : List Int} (h : IOwn w base (.slice A n c) l) (hb : Below w.heap.size w w1) {k : Nat} {x : Int} (hk : l[k]? = some x) : ∃ ad, A = some ad ∧ w1.cell? (ad.add k) = some (.int .i64 x) := by
  obtain ⟨A', c', e, _, hr⟩ := h.form
  injection e with e1 _ _
  subst e1
  obtain ⟨ad, x', e, hc, hx⟩ := cells_at (cells_C hr) hb (k := k) (by rw [List.length_map]; exact (List.getElem?_eq_some_iff.1 hk).1)
  rw [List.getElem?_map, hk] at hx
  cases hx
  exact ⟨ad, e, hc⟩
theorem sown_at {w w1 : World} {base : Nat} {A : Option Addr} {n c : Nat} {l : List ByteArray} (h : SOwn w base (.slice A n c) l) (hb : Below w.heap.size w w1) {k : Nat} {x : ByteArray} (hk : l[k]? = some x) : ∃ ad, A = some ad ∧ w1.cell? (ad.add k) = some (.string x) := by
  obtain ⟨A', c', e, _, hr⟩ := h.form
  injection e with e1 _ _
  subst e1
  obtain ⟨ad, x', e, hc, hx⟩ := cells_at (cells_C hr) hb (k := k) (by rw [List.length_map]; exact (List.getElem?_eq_some_iff.1 hk).1)
  rw [List.getElem?_map, hk] at hx
  cases hx
  exact ⟨ad, e, hc⟩

attribute [local go_sem ↓] loadAt_ldR

set_option maxHeartbeats 4000000 in
set_option maxRecDepth 100000 in
theorem tright_mid (c : Cm) (A : Option Addr) (k : Nat) (w : World) (hC : Kd.string.C w A c.bodies.length c.bodies) (h0 : -1 ≤ c.n) (h1 : c.n ≤ 4611686018427387903) (h2 : c.bodies.length ≤ 10) :
    Calls Tryd.prog 12 #[.agg #[.int .i64 c.client, .int .i64 c.req, .int .i64 c.kind, .string c.queue, .int .i64 c.vis, .int .i64 c.ret, .int .i64 c.del, .int .i64 c.win, .int .i64 c.mx, .string c.dead, .bool c.fifo, .string c.body, .string c.group, .string c.key, .string c.receipt, .slice A c.bodies.length k, .int .i64 c.n, .int .i64 c.m]] w fun e w' => e = .returned (.bool (c.numsF.all numOk && (c.txts ++ c.bodies).all txtOk)) ∧ Below w.heap.size w w' := by
  have hn : decide (c.n < -1) = false := decide_eq_false (by omega)
  have hn2 : decide ((4611686018427387903 : Int) < c.n) = false := decide_eq_false (by omega)
  have hn3 : decide (10 < c.bodies.length) = false := decide_eq_false (by omega)
  have HC := Lib.hid hC
  clear hC
  go_enter Tryd.func12, Tryd.ntmps12
  go_wp2_with fail
  go_quiet ((go_at_call 35; exact Calls.quiet_of_same (most_any _)))
  have Hg : Hid (((w.alloc (.cells #[.int .i64 c.client, .int .i64 c.req, .int .i64 c.kind, .string c.queue, .int .i64 c.vis, .int .i64 c.ret, .int .i64 c.del, .int .i64 c.win, .int .i64 c.mx, .string c.dead, .bool c.fifo, .string c.body, .string c.group, .string c.key, .string c.receipt, .slice A c.bodies.length k, .int .i64 c.n, .int .i64 c.m] 37)).drewN nq).heap[w.heap.size]? = some (.cells #[.int .i64 c.client, .int .i64 c.req, .int .i64 c.kind, .string c.queue, .int .i64 c.vis, .int .i64 c.ret, .int .i64 c.del, .int .i64 c.win, .int .i64 c.mx, .string c.dead, .bool c.fifo, .string c.body, .string c.group, .string c.key, .string c.receipt, .slice A c.bodies.length k, .int .i64 c.n, .int .i64 c.m] 37 (0, 0))) := Lib.hid (heap_alloc_new w (.cells #[.int .i64 c.client, .int .i64 c.req, .int .i64 c.kind, .string c.queue, .int .i64 c.vis, .int .i64 c.ret, .int .i64 c.del, .int .i64 c.win, .int .i64 c.mx, .string c.dead, .bool c.fifo, .string c.body, .string c.group, .string c.key, .string c.receipt, .slice A c.bodies.length k, .int .i64 c.n, .int .i64 c.m] 37))
  have HB := Lib.hid (pw_below_drewN (below_alloc (Below.refl w.heap.size w) (.cells #[.int .i64 c.client, .int .i64 c.req, .int .i64 c.kind, .string c.queue, .int .i64 c.vis, .int .i64 c.ret, .int .i64 c.del, .int .i64 c.win, .int .i64 c.mx, .string c.dead, .bool c.fifo, .string c.body, .string c.group, .string c.key, .string c.receipt, .slice A c.bodies.length k, .int .i64 c.n, .int .i64 c.m] 37)) nq)
  generalize (w.alloc (.cells #[.int .i64 c.client, .int .i64 c.req, .int .i64 c.kind, .string c.queue, .int .i64 c.vis, .int .i64 c.ret, .int .i64 c.del, .int .i64 c.win, .int .i64 c.mx, .string c.dead, .bool c.fifo, .string c.body, .string c.group, .string c.key, .string c.receipt, .slice A c.bodies.length k, .int .i64 c.n, .int .i64 c.m] 37)).drewN nq = w1 at Hg HB ⊢
  clear hn hn2 hn3
  generalize hgg : w.heap.size = g at Hg ⊢
  have HGG := Lib.hid hgg
  clear hgg
  go_wp2_with ((with_reducible refine gate_dst (N := 23) rfl ?_); refine wpList_load_row rfl 37 (.tmp 1) rfl g rfl 37 #[.int .i64 c.client, .int .i64 c.req, .int .i64 c.kind, .string c.queue, .int .i64 c.vis, .int .i64 c.ret, .int .i64 c.del, .int .i64 c.win, .int .i64 c.mx, .string c.dead, .bool c.fifo, .string c.body, .string c.group, .string c.key, .string c.receipt, .slice A c.bodies.length k, .int .i64 c.n, .int .i64 c.m] (0, 0) _ Hg.out Tryd.underlying37 rfl (by kernel_rfl) ?_)
  refine (tnumbers_any c _ _ h0 (by omega)).mono ?_
  rintro e w2 ⟨v, rfl, ho, hb2⟩
  obtain ⟨An, cn, rfl, _, _⟩ := ho.form
  have HL : Hid (IOwn w2 w1.heap.size (.slice An (c.nums ++ [if c.fifo then 1 else 0]).length cn) c.numsF) := Lib.hid ho
  have HX2 := Lib.hid (hb2.block g (blk_lt Hg.out) |>.trans Hg.out)
  have HB2 := Lib.hid (HB.out.trans (hb2.mono HB.out.size))
  clear ho hb2 HB Hg
  have hlen : (c.nums ++ [if c.fifo then 1 else 0]).length = 11 := by simp [Cm.nums]
  rw [hlen] at HL ⊢
  clear hlen
  go_wp2_with fail
  have hll : c.numsF.length = 11 := by simp [Cm.numsF, Cm.nums]
  have HLL := Lib.hid hll
  clear hll
  go_loopw [4] (fun i wr => ∃ kk : Nat, kk ≤ 11 ∧ i = .int .i64 kk ∧ Hid ((c.numsF.take kk).all numOk = true) ∧ Below w2.heap.size w2 wr) (fun i _ => 11 - (intOf i).toNat)
  case atStart => exact ⟨0, by omega, rfl, Lib.hid rfl, Below.refl _ _⟩
  case round =>
    obtain ⟨kk, hk, rfl, HK, hb⟩ := hrel
    by_cases hlt : (kk : Int) < 11
    · obtain ⟨x, hx⟩ : ∃ x, c.numsF[kk]? = some x := ⟨_, List.getElem?_eq_getElem (by rw [HLL.out]; omega)⟩
      obtain ⟨ad, rfl, hcell⟩ := iown_at HL.out hb hx
      have HX := Lib.hid hx
      clear hx
      by_cases hx0 : x < 0
      · have hd : decide (x < 0) = true := decide_eq_true hx0
        have HF := Lib.hid (all_no (p := numOk) HX.out (by unfold numOk; exact decide_eq_false (by omega)))
        go_wp2_with fail
        go_quiet (fail)
        go_wp2_with fail
        go_ret
        exact ⟨by rw [HF.out]; rfl, HB2.out.trans (pw_below_drewN (hb.mono HB2.out.size) _)⟩
      · by_cases hx1 : 4611686018427387904 < x
        · have hd : decide (x < 0) = false := decide_eq_false hx0
          have HF := Lib.hid (all_no (p := numOk) HX.out (by unfold numOk; exact decide_eq_false (by omega)))
          go_wp2_with fail
          go_quiet ((go_at_call 35; exact Calls.quiet_of_same (most_any _)))
          go_wp2_with fail
          go_ret
          exact ⟨by rw [HF.out]; rfl, HB2.out.trans (pw_below_drewN (hb.mono HB2.out.size) _)⟩
        · have hd : decide (x < 0) = false := decide_eq_false hx0
          have hd2 : decide (4611686018427387904 < x) = false := decide_eq_false hx1
          have HF := Lib.hid (all_snoc (p := numOk) HK.out HX.out (by unfold numOk; exact decide_eq_true (by omega)))
          go_wp2_with fail
          go_quiet ((go_at_call 35; exact Calls.quiet_of_same (most_any _)))
          go_wp2_with fail
          go_roundw
          case rel => exact ⟨kk + 1, by omega, by go_num, HF, pw_below_drewN hb _⟩
          case measure => simp [intOf]; omega
    · obtain rfl : kk = 11 := by omega
      have HN : Hid (c.numsF.all numOk = true) := Lib.hid (by have := HK.out; rwa [List.take_of_length_le (by rw [HLL.out]; omega)] at this)
      have HX3 := Lib.hid ((hb.block g (blk_lt HX2.out)).trans HX2.out)
      have HB3 := Lib.hid (HB2.out.trans (hb.mono HB2.out.size))
      clear HK HL HX2 HB2 hb HLL
      go_wp2_with fail
      have hdr := below_drew1 (Below.refl wr.heap.size wr)
      have l0 := ldR_of ((hdr.block g (blk_lt HX3.out)).trans HX3.out)
      have zc0 : wr.drew.cell? ⟨g, 15, none⟩ = some (.slice A c.bodies.length k) := (blk_cell ((hdr.block g (blk_lt HX3.out)).trans HX3.out) 15).trans rfl
      clear hdr
      go_region_law (first
        | (refine step_append_row (w0 := w) Value.string ⟨#[]⟩ w.heap.size (by rfl) _ _ 24 9 (.string ⟨#[]⟩) 16 (by rfl) Tryd.underlying24 info_str rfl (by omega) (fun _ => rfl) _ c.txts c.bodies A _ k (by rfl) (by rfl) HT.out (Kd.reads_of_C HC4.out) HB4.out HB4.out.size (by simp [Cm.txts]; omega) ?_; intro v1 w5 hown hb5 hg5; have HT5 := Lib.hid hown; have HB5 := Lib.hid hb5; clear hown hb5 hg5)
        | (go_simp; go_at_call 37; refine (ttexts_any c _ _).mono ?_; rintro e w4 ⟨v4, rfl, ho4, hb4⟩; have HT := Lib.hid (ho4.lower (below_drew1 HB3.out).size); have HX4 := Lib.hid ((hb4.block g (blk_lt (((below_drew1 (Below.refl wr.heap.size wr)).block g (blk_lt HX3.out)).trans HX3.out))).trans (((below_drew1 (Below.refl wr.heap.size wr)).block g (blk_lt HX3.out)).trans HX3.out)); have zc4 : w4.cell? ⟨g, 15, none⟩ = some (.slice A c.bodies.length k) := (blk_cell HX4.out 15).trans rfl; have HB4 := Lib.hid (((below_drew1 HB3.out)).trans (hb4.mono (below_drew1 HB3.out).size)); have HC4 := Lib.hid (Kd.C_below HC.out HB4.out); clear ho4 hb4))
      all_goals
        have HTT : Hid (SOwn w5 w.heap.size v1 (c.txts ++ c.bodies)) := HT5
        obtain ⟨At, ct, rfl, _, _⟩ := HTT.out.form
        obtain ⟨m, hm⟩ : ∃ m, m = (c.txts ++ c.bodies).length := ⟨_, rfl⟩
        have hm20 : m ≤ 20 := by rw [hm, List.length_append]; simp only [Cm.txts, List.length_cons, List.length_nil]; omega
        rw [← hm] at HTT ⊢
        have HM := Lib.hid hm
        clear hm HT5 HT
        go_wp2_with fail
        go_loop [6] (fun i => ∃ kk : Nat, kk ≤ m ∧ i = .int .i64 kk ∧ Hid (((c.txts ++ c.bodies).take kk).all txtOk = true)) (fun i => m - (intOf i).toNat)
        case atStart => exact ⟨0, by omega, rfl, Lib.hid rfl⟩
        case round =>
          obtain ⟨kk, hk, rfl, HK⟩ := hrel
          by_cases hlt : (kk : Int) < (m : Int)
          · obtain ⟨x, hx⟩ : ∃ x, (c.txts ++ c.bodies)[kk]? = some x := ⟨_, List.getElem?_eq_getElem (by have := HM.out; omega)⟩
            obtain ⟨ad, rfl, hcell⟩ := sown_at HTT.out (Below.refl _ _) hx
            have HX := Lib.hid hx
            clear hx
            by_cases hx1 : (256 : Int) < (x.size : Int)
            · have HF := Lib.hid (List.all_append ▸ all_no (p := txtOk) HX.out (by unfold txtOk; exact decide_eq_false (by omega)) : (c.txts.all txtOk && c.bodies.all txtOk) = false)
              go_wp2_with fail
              go_ret
              exact ⟨by rw [HF.out, HN.out]; rfl, HB5.out⟩
            · have HF := Lib.hid (all_snoc (p := txtOk) HK.out HX.out (by unfold txtOk; exact decide_eq_true (by omega)))
              go_wp2_with fail
              go_round
              case rel => exact ⟨kk + 1, by omega, by go_num, HF⟩
              case measure => simp [intOf]; omega
          · obtain rfl : kk = m := by omega
            have HN2 : Hid (c.txts.all txtOk = true ∧ c.bodies.all txtOk = true) := Lib.hid (by have := HK.out; rwa [List.take_of_length_le (by rw [← HM.out]; exact Nat.le_refl _), List.all_append, Bool.and_eq_true] at this)
            go_wp2_with fail
            go_ret
            exact ⟨by rw [HN.out, HN2.out.1, HN2.out.2]; rfl, HB5.out⟩

theorem tright_any (c : Cm) (A : Option Addr) (k : Nat) (w : World) (hC : Kd.string.C w A c.bodies.length c.bodies) :
    Calls Tryd.prog 12 #[.agg #[.int .i64 c.client, .int .i64 c.req, .int .i64 c.kind, .string c.queue, .int .i64 c.vis, .int .i64 c.ret, .int .i64 c.del, .int .i64 c.win, .int .i64 c.mx, .string c.dead, .bool c.fifo, .string c.body, .string c.group, .string c.key, .string c.receipt, .slice A c.bodies.length k, .int .i64 c.n, .int .i64 c.m]] w fun e w' => e = .returned (.bool (right c)) ∧ Below w.heap.size w w' := by
  by_cases h0 : c.n < -1
  · rw [right_low h0]; exact tright_low c _ w h0
  · by_cases h1 : 4611686018427387903 < c.n
    · rw [right_high (by omega)]; exact tright_high c _ w (by omega) h1
    · by_cases h2 : 10 < c.bodies.length
      · have : right c = false := by rw [right_mid (by omega) (by omega), decide_eq_false (by omega)]; simp
        rw [this]; exact tright_many c A k w (by omega) (by omega) h2
      · have : right c = (c.numsF.all numOk && (c.txts ++ c.bodies).all txtOk) := by
          rw [right_mid (by omega) (by omega), decide_eq_true (by omega), numsF_all, List.all_append]; simp
        rw [this]; exact tright_mid c A k w hC (by omega) (by omega) (by omega)

end Go.Proofs.YtlgippliihgcjaaDoor.C
