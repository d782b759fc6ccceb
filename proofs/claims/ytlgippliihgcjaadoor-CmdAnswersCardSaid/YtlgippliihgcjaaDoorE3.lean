/- errors.As at a fault of coil and a target of api.Errno; law01.Code. -/
import Derived.Test.YtlgippliihgcjaaDoorE2
namespace Go.Proofs.YtlgippliihgcjaaDoor.C
set_option linter.unusedVariables false
set_option linter.unusedSimpArgs false
open Go.RowKit Go.Extern.Stop Go.Stop Go.Extern Go.Proofs.YtlgippliihgcjaaDoorW.PrintWords

set_option maxHeartbeats 4000000 in
set_option maxRecDepth 100000 in
theorem code_nil (w : World) : Calls Tryd.prog 14 #[.nilIface] w fun e w' => e = .returned (.int .i64 0) ∧ Below w.heap.size w w' := by
  go_enter Tryd.func14, Tryd.ntmps14
  go_wp2
  go_ret
  exact ⟨rfl, below_alloc (Below.refl _ _) _⟩

theorem as_isNil (a p : Addr) (W : World) (ha : W.cell? a = some (.pointer (some p))) :
    (ReflectliteValue.method (ReflectliteValue.valueError "reflectlite.Value.IsNil" 0) ReflectliteValue.isNil #[.agg #[.pointer (some ⟨1, 94, none⟩), .pointer (some a), .int .u64 150]]).run Tryd.prog W = .ok (.bool false) W := by
  rw [rlm]
  simp only [Sem.run_bind, as_partsP, Result.andThen]
  simp [ReflectliteValue.isNil, loadVar, isAgg, underlying, Tryd.underlying94, ha, Result.andThen]

set_option maxHeartbeats 4000000 in
set_option maxRecDepth 100000 in
theorem errAs_hit (b t : Nat) (w : World) (p code old : Int) (hb : w.heap[b]? = some (.cells #[.int .i64 p, .iface 41 (.int .i64 code)] 123 (0, 0))) (ht : w.heap[t]? = some (.cells #[.int .i64 old] 41 (0, 0))) (hg : w.cell? ⟨0, 0, none⟩ = some (.iface 154 (.agg #[.pointer (some ⟨1, 32, none⟩)]))) :
    Calls Tryd.prog 46 #[.iface 121 (.pointer (some ⟨b, 0, none⟩)), .iface 94 (.pointer (some ⟨t, 0, none⟩))] w fun e w' => e = .returned (.bool true) ∧ w'.heap[t]? = some (.cells #[.int .i64 code] 41 (0, 0)) ∧ w.grownBy w' (some t) := by
  have h71 := @run_callFunc_extern Tryd.prog 71 _ (fun args => ReflectliteValue.unpack (args.getD 0 (.tuple #[]))) Tryd.func71 (by kernel_rfl) (by kernel_rfl) (by kernel_rfl) (by kernel_rfl)
  have h72 := @run_callFunc_extern Tryd.prog 72 _ (ReflectliteValue.methodAny (ReflectliteValue.valueError "reflectlite.Value.Type" 0) (fun t _ _ _ => ReflectliteType.toType t)) Tryd.func72 (by kernel_rfl) (by kernel_rfl) (by kernel_rfl) (by kernel_rfl)
  have h73 := @run_callFunc_extern Tryd.prog 73 _ (ReflectliteValue.method (ReflectliteValue.valueError "reflectlite.Value.IsNil" 0) ReflectliteValue.isNil) Tryd.func73 (by kernel_rfl) (by kernel_rfl) (by kernel_rfl) (by kernel_rfl)
  have h99 := @run_callFunc_extern Tryd.prog 99 _ (ReflectliteType.abiMethod fun t => do pure (.int .u8 (← Rtype.kind t))) Tryd.func99 (by kernel_rfl) (by kernel_rfl) (by kernel_rfl) (by kernel_rfl)
  have h111 := @run_callFunc_extern Tryd.prog 111 _ (ReflectliteType.method ReflectliteType.elem) Tryd.func111 (by kernel_rfl) (by kernel_rfl) (by kernel_rfl) (by kernel_rfl)
  have h112 := @run_callFunc_extern Tryd.prog 112 _ (ReflectliteType.relation "Implements" ReflectliteType.implements_) Tryd.func112 (by kernel_rfl) (by kernel_rfl) (by kernel_rfl) (by kernel_rfl)
  have v1 := as_valueOf
  have v2 := as_type
  have k1 := as_kindP
  have k2 := as_kindE
  have mK := as_methodKind
  have mE := as_methodElem
  have mI := as_methodImpl
  have e1 := as_elem
  have i1 := as_impl
  have n8 := as_isNil ⟨w.heap.size, 0, none⟩ ⟨t, 0, none⟩ ((w.alloc (.cells #[.pointer (some ⟨t, 0, none⟩)] 94)).alloc (.cells #[.pointer (some ⟨1, 94, none⟩), .pointer (some ⟨w.heap.size, 0, none⟩), .int .u64 150] 132)) (by simp)
  have hg2 := pw_cell_below (below_alloc (below_alloc (Below.refl w.heap.size w) (.cells #[.pointer (some ⟨t, 0, none⟩)] 94)) (.cells #[.pointer (some ⟨1, 94, none⟩), .pointer (some ⟨w.heap.size, 0, none⟩), .int .u64 150] 132)) hg
  go_enter Tryd.func46, Tryd.ntmps46
  have hbb := below_alloc (below_alloc (Below.refl w.heap.size w) (.cells #[.pointer (some ⟨t, 0, none⟩)] 94)) (.cells #[.pointer (some ⟨1, 94, none⟩), .pointer (some ⟨w.heap.size, 0, none⟩), .int .u64 150] 132)
  have hb2 := (hbb.block b (blk_lt hb)).trans hb
  have ht2 := (hbb.block t (blk_lt ht)).trans ht
  go_wp2_with (go_at_call 74; refine (as_loop b t w.heap.size _ p code old _ hb2 (by simp) ht2).mono ?_; rintro e w1 ⟨rfl, rfl⟩)
  go_wp2_with fail
  go_ret
  refine ⟨rfl, ?_, ?_⟩
  · have h5 : ∀ (o1 o2 : Obj) (W : World), W.heap[t]? = some (.cells #[.int .i64 old] 41 (0, 0)) → ((W.alloc o1).alloc o2).heap[t]? = some (.cells #[.int .i64 old] 41 (0, 0)) := fun o1 o2 W h => ((below_alloc (below_alloc (Below.refl W.heap.size W) o1) o2).block t (blk_lt h)).trans h
    exact blk_set (h5 _ _ _ ht2) 0 _
  · exact grown_trans (grown_trans (grown_trans (grown_trans (grown_alloc _ _ _) (grown_alloc _ _ _)) (grown_alloc _ _ _)) (grown_alloc _ _ _)) (grown_set _ _ _ _)

set_option maxHeartbeats 4000000 in
set_option maxRecDepth 100000 in
theorem code_any (base : Nat) (ev : Value) (a_ code : Int) (w : World) (h : ErrV w base ev a_ code) (hg : w.cell? ⟨0, 0, none⟩ = some (.iface 154 (.agg #[.pointer (some ⟨1, 32, none⟩)]))) :
    Calls Tryd.prog 14 #[ev] w fun e w' => e = .returned (.int .i64 code) ∧ Below w.heap.size w w' := by
  rcases h with ⟨rfl, rfl⟩ | ⟨hne, b, rfl, _, hb⟩
  · exact code_nil w
  · have HB := Lib.hid hb
    have HG := Lib.hid hg
    clear hb hg hne
    go_enter Tryd.func14, Tryd.ntmps14
    go_wp2_with fail
    have HN := Lib.hid (heap_alloc_new w (.cells #[.int .i64 0] 41))
    have HL := Lib.hid (below_alloc (Below.refl w.heap.size w) (.cells #[.int .i64 0] 41))
    have hgt : w.heap.size < (w.alloc (.cells #[.int .i64 0] 41)).heap.size := by simp
    generalize w.alloc (.cells #[.int .i64 0] 41) = w1 at HN HL hgt ⊢
    refine (errAs_hit b w.heap.size w1 a_ code 0 ((HL.out.block b (blk_lt HB.out)).trans HB.out) HN.out (pw_cell_below HL.out HG.out)).mono ?_
    rintro e w2 ⟨rfl, ht, hgr⟩
    have z : w2.cell? ⟨w.heap.size, 0, none⟩ = some (.int .i64 code) := (blk_cell ht 0).trans rfl
    have HW := Lib.hid (below_grown HL.out HL.out.size hgr (Nat.le_refl _))
    clear ht hgr hgt
    go_wp2_with fail
    go_ret
    exact ⟨rfl, HW.out⟩

end Go.Proofs.YtlgippliihgcjaaDoor.C
