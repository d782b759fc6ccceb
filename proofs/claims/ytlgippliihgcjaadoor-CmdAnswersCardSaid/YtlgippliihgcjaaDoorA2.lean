/- cmd.RightAnswer, coil.Nums, cmd.WriteAnswer. -/
import Derived.Test.YtlgippliihgcjaaDoorA1
import Derived.Test.YtlgippliihgcjaaDoorC2
import Derived.Test.YtlgippliihgcjaaDoorR6
import Derived.Deep.RegionHeld3
namespace Go.Proofs.YtlgippliihgcjaaDoor.C
set_option linter.unusedVariables false
set_option linter.unusedSimpArgs false
open Go.RowKit Go.Proofs.YtlgippliihgcjaaDoorW.PrintWords

/-- An answer. -/
structure An where
  code : Int
  ids : List Int
  took : List Tk
abbrev IRead (w : World) (A : Option Addr) (l : List Int) : Prop := (Kd.int .i64).C w A l.length l
def rightA (a : An) : Bool := numOk a.code && (decide (a.ids.length ≤ 10) && (decide (a.took.length ≤ 10) && (a.ids.all numOk && a.took.all tkOk)))

set_option maxHeartbeats 4000000 in
set_option maxRecDepth 100000 in
theorem rightA_any (a : An) (A1 A2 : Option Addr) (k1 k2 : Nat) (w : World) (h1 : IRead w A1 a.ids) (h2 : TRead w A2 a.took) :
    Calls Tryd.prog 28 #[.agg #[.int .i64 a.code, .slice A1 a.ids.length k1, .slice A2 a.took.length k2]] w fun e w' => e = .returned (.bool (rightA a)) ∧ Below w.heap.size w w' := by
  have HT : Hid (rightA a = (numOk a.code && (decide (a.ids.length ≤ 10) && (decide (a.took.length ≤ 10) && (a.ids.all numOk && a.took.all tkOk))))) := Lib.hid rfl
  have HB := Lib.hid (below_alloc (Below.refl w.heap.size w) (.cells #[.int .i64 a.code, .slice A1 a.ids.length k1, .slice A2 a.took.length k2] 56))
  have H1 := Lib.hid h1
  have H2 := Lib.hid h2
  clear h1 h2
  go_enter Tryd.func28, Tryd.ntmps28
  go_wp2_with fail
  refine (number_any _ _).mono ?_
  rintro e w1 ⟨rfl, rfl⟩
  generalize numOk a.code = q1 at HT ⊢
  cases q1 with
  | false => go_wp2_with fail; go_ret; exact ⟨by rw [HT.out]; rfl, HB.out⟩
  | true =>
  by_cases hl1 : a.ids.length ≤ 10
  · have HD1 := Lib.hid (decide_eq_true hl1)
    by_cases hl2 : a.took.length ≤ 10
    · have HD2 := Lib.hid (decide_eq_true hl2)
      go_wp2_with fail
      refine (contains_ints a.ids A1 k1 _ (Kd.C_below H1.out HB.out)).mono ?_
      rintro e w2 ⟨rfl, hb⟩
      have HB2 := Lib.hid (HB.out.trans (hb.mono HB.out.size))
      have hx : w2.heap[w.heap.size]? = some (.cells #[.int .i64 a.code, .slice A1 a.ids.length k1, .slice A2 a.took.length k2] 56 (0, 0)) := (hb.block _ (by simp)).trans (heap_alloc_new _ _)
      have z2 : w2.cell? ⟨w.heap.size, 2, none⟩ = some (.slice A2 a.took.length k2) := (blk_cell hx 2).trans rfl
      clear hb hx
      generalize a.ids.all numOk = q2 at HT ⊢
      cases q2 with
      | false => go_wp2_with fail; go_ret; exact ⟨by rw [HT.out, HD1.out, HD2.out]; rfl, HB2.out⟩
      | true =>
      go_wp2_with fail
      refine (containsFunc_took A2 a.took k2 _ (Kd.C_below H2.out HB2.out)).mono ?_
      rintro e w3 ⟨rfl, hb⟩
      have HB3 := Lib.hid (HB2.out.trans (hb.mono HB2.out.size))
      clear hb
      go_wp2_with fail
      go_ret
      exact ⟨by rw [HT.out, HD1.out, HD2.out]; simp, HB3.out⟩
    · have HD2 := Lib.hid (decide_eq_false hl2)
      go_wp2_with fail
      go_ret
      exact ⟨by rw [HT.out, HD1.out, HD2.out]; rfl, HB.out⟩
  · have HD1 := Lib.hid (decide_eq_false hl1)
    go_wp2_with fail
    go_ret
    exact ⟨by rw [HT.out, HD1.out]; rfl, HB.out⟩

/-- A row's bytes. -/
def rowB (l : List Int) : List Int := numB l.length ++ fm l

set_option maxHeartbeats 1000000 in
set_option maxRecDepth 100000 in
theorem nums_own (v : Value) (bs : List Int) (base : Nat) (A : Option Addr) (c : Nat) (l : List Int) (w : World) (h : BOwn w base v bs) (hl : bs.length ≤ 1000000) (hr : IRead w A l) (hn : l.length ≤ 1000) (hall : l.all numOk = true) :
    Calls Tryd.prog 60 #[v, .slice A l.length c] w fun e w' => ∃ v, e = .returned v ∧ BOwn w' w.heap.size v (bs ++ rowB l) ∧ Below w.heap.size w w' := by
  have hcl := Lib.hid (num_own v bs base l.length w h (by omega) (by omega) (by omega))
  have HR := Lib.hid (cells_C hr)
  have HL := Lib.hid hall
  clear h hr hall
  go_enter Tryd.func60, Tryd.ntmps60
  go_wp2_with fail
  refine hcl.out.mono ?_
  rintro e w1 ⟨v1, rfl, ho, hb⟩
  have HO := Lib.hid ho
  have HB := Lib.hid hb
  clear ho hb hcl
  go_wp2_with fail
  go_loopw [5, 14] (fun v i wr => ∃ k : Nat, k ≤ l.length ∧ i = .int .i64 k ∧ Hid (BOwn wr w.heap.size v (bs ++ numB l.length ++ fm (l.take k))) ∧ Hid (Below w.heap.size w wr)) (fun _ i _ => l.length - (intOf i).toNat)
  case atStart => exact ⟨0, by omega, rfl, Lib.hid (by simpa [fm] using HO.out), HB⟩
  case round =>
    obtain ⟨k, hk, rfl, HV, HW⟩ := hrel
    by_cases hlt : k < l.length
    · obtain ⟨ad, x, rfl, hcell, hx⟩ := cells_at HR.out HW.out (k := k) (by rw [List.length_map]; exact hlt)
      rw [List.getElem?_map, Option.map_eq_some_iff] at hx
      obtain ⟨sx, hx, rfl⟩ := hx
      have HN := Lib.hid hx
      obtain ⟨n0, n1⟩ := numOk_iff (all_at HL.out hx)
      have hlq := fm_take_len HL.out k
      have hlz := numB_len' (n := l.length) (by omega)
      have HLN : Hid ((bs ++ numB l.length ++ fm (l.take k)).length ≤ 70368744177664) := Lib.hid (by rw [List.length_append, List.length_append]; omega)
      clear hx hlq hlz
      go_wp2_with fail
      refine (num_own _ _ _ sx _ HV.out HLN.out n0 (by omega)).mono ?_
      rintro e w11 ⟨v5, rfl, ho, hb⟩
      have hbs := HW.out.size
      have HO := Lib.hid (ho.lower hbs)
      have HW11 := Lib.hid (HW.out.trans (hb.mono hbs))
      clear ho hb hbs
      go_wp2_with fail
      go_roundw
      case rel => exact ⟨k + 1, by omega, by go_num, Lib.hid (by rw [fm_snoc HN.out, ← List.append_assoc]; exact HO.out), HW11⟩
      case measure => simp [intOf]; omega
    · obtain rfl : k = l.length := by omega
      have HV12 : Hid (BOwn _ w.heap.size _ (bs ++ rowB l)) := Lib.hid (by rw [rowB, ← List.append_assoc]; simpa using HV.out)
      go_wp2_with fail
      go_ret
      exact ⟨_, rfl, HV12.out, HW.out⟩

end Go.Proofs.YtlgippliihgcjaaDoor.C
