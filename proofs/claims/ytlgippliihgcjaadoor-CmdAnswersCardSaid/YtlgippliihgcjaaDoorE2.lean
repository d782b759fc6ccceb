/- errors.as at a fault of coil and a target of api.Errno. -/
import Derived.Test.YtlgippliihgcjaaDoorE1
namespace Go.Proofs.YtlgippliihgcjaaDoor.C
set_option linter.unusedVariables false
set_option linter.unusedSimpArgs false
open Go.RowKit Go.Extern.Stop Go.Stop Go.Extern Go.Proofs.YtlgippliihgcjaaDoorW.PrintWords

theorem as_methodAss (h : Value) (w : World) : (Go.method 296 154 (.agg #[h]) "AssignableTo").run Tryd.prog w = .ok (109, .agg #[h]) w := by kernel_rfl
theorem as_methodKind (h : Value) (w : World) : (Go.method 296 154 (.agg #[h]) "Kind").run Tryd.prog w = .ok (99, h) w := by kernel_rfl
theorem as_methodElem (h : Value) (w : World) : (Go.method 296 154 (.agg #[h]) "Elem").run Tryd.prog w = .ok (111, .agg #[h]) w := by kernel_rfl
theorem as_methodImpl (h : Value) (w : World) : (Go.method 296 154 (.agg #[h]) "Implements").run Tryd.prog w = .ok (112, .agg #[h]) w := by kernel_rfl
theorem as_noAs (v : Value) (w : World) : (Instr.typeAssert (.iface 121 v) 32 159 true).run Tryd.prog w = .ok (.tuple #[.nilIface, .bool false]) w := run_typeAssert_lacksB Tryd.underlying159 (by kernel_rfl) (by kernel_rfl) _ _ _
theorem as_isU (v : Value) (w : World) : (Instr.typeAssert (.iface 121 v) 32 162 true).run Tryd.prog w = .ok (.tuple #[.iface 121 v, .bool true]) w := by kernel_rfl
theorem as_unwrap (b : Addr) (w : World) : (Go.method 296 121 (.pointer (some b)) "Unwrap").run Tryd.prog w = .ok (104, .pointer (some b)) w := by kernel_rfl

set_option maxHeartbeats 4000000 in
set_option maxRecDepth 100000 in
theorem unwrap_any (b : Nat) (w : World) (p code : Int) (hb : w.heap[b]? = some (.cells #[.int .i64 p, .iface 41 (.int .i64 code)] 123 (0, 0))) :
    Calls Tryd.prog 104 #[.pointer (some ⟨b, 0, none⟩)] w fun e w' => e = .returned (.iface 41 (.int .i64 code)) ∧ w' = w := by
  have z0 : w.cell? ⟨b, 1, none⟩ = some (.iface 41 (.int .i64 code)) := (blk_cell hb 1).trans rfl
  go_enter Tryd.func104, Tryd.ntmps104
  go_wp2
  go_ret
  exact ⟨rfl, rfl⟩

theorem rlm (z : Sem Value) (f : TypeId → Addr → Nat → Nat → Sem Value) (v : Value) :
    ReflectliteValue.method z f #[v] = (do match ← ReflectliteValue.parts v with | none => z | some (t, a, fl) => f t a fl (fl % 32)) := rfl
theorem as_partsP (a : Addr) (w : World) : (ReflectliteValue.parts (.agg #[.pointer (some ⟨1, 94, none⟩), .pointer (some a), .int .u64 150])).run Tryd.prog w = .ok (some (94, a, 150)) w := by kernel_rfl
theorem as_partsA (a : Addr) (w : World) : (ReflectliteValue.parts (.agg #[.pointer (some ⟨1, 41, none⟩), .pointer (some a), .int .u64 386])).run Tryd.prog w = .ok (some (41, a, 386)) w := by kernel_rfl
theorem as_partsE (a : Addr) (w : World) : (ReflectliteValue.parts (.agg #[.pointer (some ⟨1, 41, none⟩), .pointer (some a), .int .u64 130])).run Tryd.prog w = .ok (some (41, a, 130)) w := by kernel_rfl
theorem as_elemV (a p : Addr) (W : World) (ha : W.cell? a = some (.pointer (some p))) :
    (ReflectliteValue.method (ReflectliteValue.valueError "reflectlite.Value.Elem" 0) ReflectliteValue.elem #[.agg #[.pointer (some ⟨1, 94, none⟩), .pointer (some a), .int .u64 150]]).run Tryd.prog W
      = .ok (.agg #[.pointer (some ⟨1, 41, none⟩), .pointer (some p), .int .u64 386]) W := by
  rw [rlm]
  simp only [Sem.run_bind, as_partsP, Result.andThen]
  simp [ReflectliteValue.elem, loadVar, isAgg, underlying, Tryd.underlying94, ha, Result.andThen, as_elemOf, as_mk]

theorem rls (v x : Value) : ReflectliteValue.set #[v, x] = (do
    let (some (dst, a, fl), some (src, b, _)) := (← ReflectliteValue.parts v, ← ReflectliteValue.parts x)
      | unsupported (.noEntry "extern/(internal/reflectlite.Value).Set.zeroValue")
    if fl / ReflectliteValue.flagAddr % 2 == 0 then unsupported (.noEntry "extern/(internal/reflectlite.Value).Set.unaddressable")
    let val ← loadVar src b
    if ← Rtype.directlyAssignable dst src then storeVar dst a val
    else if ← Rtype.implements dst src then
      if (← Rtype.kind src) == 20 then
        match val with
        | .nilIface => unsupported (.noEntry "extern/reflectlite: a nil value of one interface type handed on as a value of another")
        | _ => storeVar dst a val
      else storeVar dst a (.iface src val)
    else panicString ("reflectlite.Set: value of type " ++ (← Rtype.spelt src) ++ " is not assignable to type " ++ (← Rtype.spelt dst))
    pure (.tuple #[])) := rfl
theorem as_size (w : World) : (sizeOf 41).run Tryd.prog w = .ok 1 w := by kernel_rfl
theorem as_set (ta b : Addr) (code : Int) (old : Value) (W : World) (hb : W.cell? b = some (.int .i64 code)) (ht : W.cell? ta = some old) (hf : W.frozen? ta = false) :
    (ReflectliteValue.set #[.agg #[.pointer (some ⟨1, 41, none⟩), .pointer (some ta), .int .u64 386], .agg #[.pointer (some ⟨1, 41, none⟩), .pointer (some b), .int .u64 130]]).run Tryd.prog W
      = .ok (.tuple #[]) (W.setCell ta (.int .i64 code)) := by
  rw [rls]
  simp only [Sem.run_bind, as_partsA, as_partsE, Result.andThen]
  simp [ReflectliteValue.flagAddr, loadVar, isAgg, underlying, Tryd.underlying41, hb, Result.andThen, as_direct, storeVar, Value.cells, storeCells, Addr.add]
  rw [run_store Tryd.prog W ta _ _ (by rfl)]
  simp [ht, hf]

set_option maxHeartbeats 4000000 in
set_option maxRecDepth 100000 in
theorem as_loop (b t ta : Nat) (w : World) (p code old : Int) (tg : Value) (hb : w.heap[b]? = some (.cells #[.int .i64 p, .iface 41 (.int .i64 code)] 123 (0, 0))) (ha : w.cell? ⟨ta, 0, none⟩ = some (.pointer (some ⟨t, 0, none⟩))) (ht : w.heap[t]? = some (.cells #[.int .i64 old] 41 (0, 0))) :
    Calls Tryd.prog 74 #[.iface 121 (.pointer (some ⟨b, 0, none⟩)), tg, .agg #[.pointer (some ⟨1, 94, none⟩), .pointer (some ⟨ta, 0, none⟩), .int .u64 150], .iface 154 (.agg #[.pointer (some ⟨1, 41, none⟩)])] w fun e w' => e = .returned (.bool true) ∧ w' = ((w.alloc (.cells #[.pointer (some ⟨1, 94, none⟩), .pointer (some ⟨ta, 0, none⟩), .int .u64 150] 132)).alloc (.cells #[.int .i64 code] 41)).setCell ⟨t, 0, none⟩ (.int .i64 code) := by
  have h71 := @run_callFunc_extern Tryd.prog 71 _ (fun args => ReflectliteValue.unpack (args.getD 0 (.tuple #[]))) Tryd.func71 (by kernel_rfl) (by kernel_rfl) (by kernel_rfl) (by kernel_rfl)
  have h82 := @run_callFunc_extern Tryd.prog 82 _ ReflectliteType.typeOf Tryd.func82 (by kernel_rfl) (by kernel_rfl) (by kernel_rfl) (by kernel_rfl)
  have h109 := @run_callFunc_extern Tryd.prog 109 _ (ReflectliteType.relation "AssignableTo" ReflectliteType.assignableTo) Tryd.func109 (by kernel_rfl) (by kernel_rfl) (by kernel_rfl) (by kernel_rfl)
  have h83 := @run_callFunc_extern Tryd.prog 83 _ (ReflectliteValue.method (ReflectliteValue.valueError "reflectlite.Value.Elem" 0) ReflectliteValue.elem) Tryd.func83 (by kernel_rfl) (by kernel_rfl) (by kernel_rfl) (by kernel_rfl)
  have h84 := @run_callFunc_extern Tryd.prog 84 _ ReflectliteValue.set Tryd.func84 (by kernel_rfl) (by kernel_rfl) (by kernel_rfl) (by kernel_rfl)
  have tF := as_typeF
  have tE := as_typeE
  have aF := as_assF
  have aE := as_assE
  have mA := as_methodAss
  have mU := as_unwrap
  have vE := as_valueOfE
  have nA := as_noAs
  have iU := as_isU
  have bel := below_alloc (Below.refl w.heap.size w) (.cells #[.pointer (some ⟨1, 94, none⟩), .pointer (some ⟨ta, 0, none⟩), .int .u64 150] 132)
  have el := as_elemV ⟨ta, 0, none⟩ ⟨t, 0, none⟩ (w.alloc (.cells #[.pointer (some ⟨1, 94, none⟩), .pointer (some ⟨ta, 0, none⟩), .int .u64 150] 132)) (pw_cell_below bel ha)
  have bel2 := below_alloc bel (.cells #[.int .i64 code] 41)
  have ht2 := (bel2.block t (blk_lt ht)).trans ht
  have st := as_set ⟨t, 0, none⟩ ⟨w.heap.size + 1, 0, none⟩ code (.int .i64 old) ((w.alloc (.cells #[.pointer (some ⟨1, 94, none⟩), .pointer (some ⟨ta, 0, none⟩), .int .u64 150] 132)).alloc (.cells #[.int .i64 code] 41)) (by simp) ((blk_cell ht2 0).trans rfl) (blk_frozen ht2 0)
  clear bel bel2 ht2
  go_enter Tryd.func74, Tryd.ntmps74
  go_wp2
  refine wp_loop_rounds 2 ?_
  rw [rounds_succ]
  go_wp2_with (go_at_call 104; refine (unwrap_any b _ p code ((below_alloc (Below.refl _ _) _).block b (blk_lt hb) |>.trans hb)).mono ?_; rintro e w1 ⟨rfl, rfl⟩)
  rw [rounds_succ]
  go_wp2
  go_ret
  exact ⟨rfl, rfl⟩

end Go.Proofs.YtlgippliihgcjaaDoor.C
