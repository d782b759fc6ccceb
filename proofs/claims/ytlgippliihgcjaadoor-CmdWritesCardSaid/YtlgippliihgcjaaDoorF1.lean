/- Few. -/
import Derived.Test.YtlgippliihgcjaaDoorC6
import Derived.Deep.MidRow
import Derived.Deep.QuietTactic
import Derived.BigQuiet
namespace Go.Proofs.YtlgippliihgcjaaDoor.C
set_option linter.unusedVariables false
set_option linter.unusedSimpArgs false
open Go.RowKit Go.Proofs.YtlgippliihgcjaaDoorW.PrintWords Go.Proofs.YtlgippliihgcjaaDoorW.PrintLast

/-- A Bool came, whichever. -/
def AnyBool (e : Ending) : Prop := ∃ q, e = .returned (.bool q)

/-- The cells of some commands, one behind the other. -/
def CellsOf : List (Cm × Value) → List Value
  | [] => []
  | (c, bv) :: l => [.int .i64 c.client, .int .i64 c.req, .int .i64 c.kind, .string c.queue, .int .i64 c.vis, .int .i64 c.ret, .int .i64 c.del, .int .i64 c.win, .int .i64 c.mx, .string c.dead, .bool c.fifo, .string c.body, .string c.group, .string c.key, .string c.receipt, bv, .int .i64 c.n, .int .i64 c.m] ++ CellsOf l

/-- A list of commands, each with bodies that can be read. -/
def CmdsOk (w : World) (l : List (Cm × Value)) : Prop := ∀ c bv, (c, bv) ∈ l → ∃ A k, bv = .slice A c.bodies.length k ∧ Kd.string.C w A c.bodies.length c.bodies

theorem alloc_self (w : World) (o : Obj) : (w.alloc o).heap[w.heap.size]? = some o := heap_alloc_new w o
theorem rangeAt_tail {w : World} {g o : Nat} {xs ys : List Value} (h : w.rangeAt g o (xs ++ ys)) : w.rangeAt g o xs ∧ w.rangeAt g (o + xs.length) ys := by
  refine ⟨fun j v hj => h j v ?_, fun j v hj => ?_⟩
  · rw [List.getElem?_append_left (List.getElem?_eq_some_iff.1 hj).1]; exact hj
  · have := h (xs.length + j) v (by rw [List.getElem?_append_right (Nat.le_add_right _ _), Nat.add_sub_cancel_left]; exact hj)
    rwa [← Nat.add_assoc] at this
theorem rangeAt_below {w w1 : World} {g o : Nat} {xs : List Value} (h : w.rangeAt g o xs) (hb : Below w.heap.size w w1) : w1.rangeAt g o xs :=
  fun j v hj => pw_cell_below hb (h j v hj)
theorem rangeAt_cmd : ∀ (l : List (Cm × Value)) (w : World) (g o k : Nat) (c : Cm) (bv : Value), w.rangeAt g o (CellsOf l) → l[k]? = some (c, bv) → w.rangeAt g (o + k * 18) [.int .i64 c.client, .int .i64 c.req, .int .i64 c.kind, .string c.queue, .int .i64 c.vis, .int .i64 c.ret, .int .i64 c.del, .int .i64 c.win, .int .i64 c.mx, .string c.dead, .bool c.fifo, .string c.body, .string c.group, .string c.key, .string c.receipt, bv, .int .i64 c.n, .int .i64 c.m]
  | [], _, _, _, _, _, _, _, h => by simp at h
  | (c0, b0) :: l, w, g, o, 0, c, bv, hr, h => by
    cases h
    exact (rangeAt_tail hr).1
  | (c0, b0) :: l, w, g, o, k + 1, c, bv, hr, h => by
    have := rangeAt_cmd l w g (o + 18) k c bv (rangeAt_tail hr).2 h
    rwa [show o + 18 + k * 18 = o + (k + 1) * 18 by omega] at this

set_option maxHeartbeats 16000000 in
set_option maxRecDepth 100000 in
theorem few_any (l : List (Cm × Value)) (g kc : Nat) (w : World) (hr : w.rangeAt g 0 (CellsOf l)) (hl : CmdsOk w l) :
    Calls Tryd.prog 8 #[.slice (some ⟨g, 0, none⟩) l.length kc] w fun e w' => AnyBool e ∧ Below w.heap.size w w' := by
  go_enter Tryd.func8, Tryd.ntmps8
  go_wp2_with fail
  go_loopw [3, 4] (fun v i wr => ∃ (n : Int) (k : Nat), k ≤ l.length ∧ v = .int .i64 n ∧ i = .int .i64 k ∧ Below w.heap.size w wr) (fun _ i _ => l.length - (intOf i).toNat)
  case atStart => exact ⟨0, 0, by omega, rfl, rfl, Below.refl _ _⟩
  case round =>
    obtain ⟨n, k, hk, rfl, rfl, HV⟩ := hrel
    by_cases hlt : (k : Int) < (l.length : Int)
    · obtain ⟨⟨c, bv⟩, hcb2⟩ : ∃ p, l[k]? = some p := ⟨_, List.getElem?_eq_getElem (by omega)⟩
      obtain ⟨A, kb, rfl, hB⟩ := hl c bv (List.mem_of_getElem? hcb2)
      have hR := rangeAt_below (rangeAt_cmd l w g 0 k c _ hr hcb2) HV
      rw [Nat.zero_add] at hR
      have HR := Lib.hid hR
      have HB := Lib.hid (cells_C hB)
      have hl63 := Kd.C_max hB
      clear hR hB hcb2
      by_cases h60 : (k : Int) ≤ 60
      · go_wp2_with ((with_reducible refine gate_dst (N := 20) rfl ?_); refine wpList_load_mid rfl 26 (.tmp 19) rfl g (k * 18) rfl _ _ HR.out Tryd.underlying26 rfl (by kernel_rfl) ?_)
        have HX : Hid ((wr.alloc (.cells #[.int .i64 c.client, .int .i64 c.req, .int .i64 c.kind, .string c.queue, .int .i64 c.vis, .int .i64 c.ret, .int .i64 c.del, .int .i64 c.win, .int .i64 c.mx, .string c.dead, .bool c.fifo, .string c.body, .string c.group, .string c.key, .string c.receipt, .slice A c.bodies.length kb, .int .i64 c.n, .int .i64 c.m] 26)).heap[wr.heap.size]? = some (.cells #[.int .i64 c.client, .int .i64 c.req, .int .i64 c.kind, .string c.queue, .int .i64 c.vis, .int .i64 c.ret, .int .i64 c.del, .int .i64 c.win, .int .i64 c.mx, .string c.dead, .bool c.fifo, .string c.body, .string c.group, .string c.key, .string c.receipt, .slice A c.bodies.length kb, .int .i64 c.n, .int .i64 c.m] 26 (0, 0))) := Lib.hid (alloc_self _ _)
        have HW := Lib.hid (below_alloc HV (.cells #[.int .i64 c.client, .int .i64 c.req, .int .i64 c.kind, .string c.queue, .int .i64 c.vis, .int .i64 c.ret, .int .i64 c.del, .int .i64 c.win, .int .i64 c.mx, .string c.dead, .bool c.fifo, .string c.body, .string c.group, .string c.key, .string c.receipt, .slice A c.bodies.length kb, .int .i64 c.n, .int .i64 c.m] 26))
        generalize wr.alloc (.cells #[.int .i64 c.client, .int .i64 c.req, .int .i64 c.kind, .string c.queue, .int .i64 c.vis, .int .i64 c.ret, .int .i64 c.del, .int .i64 c.win, .int .i64 c.mx, .string c.dead, .bool c.fifo, .string c.body, .string c.group, .string c.key, .string c.receipt, .slice A c.bodies.length kb, .int .i64 c.n, .int .i64 c.m] 26) = w1 at HX HW ⊢
        generalize wr.heap.size = gx at HX ⊢
        go_loopw [3, 6] (fun v i w2 => ∃ (n : Int) (j : Nat), j ≤ c.bodies.length ∧ v = .int .i64 n ∧ i = .int .i64 j ∧ Below w1.heap.size w1 w2) (fun _ i _ => c.bodies.length - (intOf i).toNat)
        case atStart => exact ⟨_, 0, by omega, rfl, rfl, Below.refl _ _⟩
        case round =>
          obtain ⟨n, j, hj, rfl, rfl, HV2⟩ := hrel
          have HX2 := Lib.hid ((HV2.block gx (blk_lt HX.out)).trans HX.out)
          have z1 : wr.cell? ⟨gx, 15, none⟩ = some (.slice A c.bodies.length kb) := (blk_cell HX2.out 15).trans rfl
          by_cases hjl : (j : Int) < (c.bodies.length : Int)
          · obtain ⟨ad, x, rfl, hcx, hx⟩ := cells_at HB.out (HW.out.trans (HV2.mono HW.out.size)) (k := j) (by rw [List.length_map]; omega)
            rw [List.getElem?_map, Option.map_eq_some_iff] at hx
            obtain ⟨s, hx, rfl⟩ := hx
            clear hx
            by_cases h20 : (j : Int) ≤ 20
            · go_wp2_with fail
              go_roundw
              case rel => exact ⟨_, j + 1, by omega, rfl, by go_num, HV2⟩
              case measure => simp only [intOf]; omega
            · go_wp2_with fail
              go_roundw
              case rel => exact ⟨_, k + 1, by omega, rfl, by go_num, HW.out.trans (HV2.mono HW.out.size)⟩
              case measure => simp only [intOf]; omega
          · go_wp2_with fail
            go_roundw
            case rel => exact ⟨_, k + 1, by omega, rfl, by go_num, HW.out.trans (HV2.mono HW.out.size)⟩
            case measure => simp only [intOf]; omega
      · go_wp2_with fail
        all_goals go_ret
        all_goals exact ⟨⟨_, rfl⟩, HV⟩
    · go_wp2_with fail
      all_goals go_ret
      all_goals exact ⟨⟨_, rfl⟩, HV⟩

end Go.Proofs.YtlgippliihgcjaaDoor.C
