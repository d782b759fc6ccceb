/- slices.Equal and shop.Same, of what is the same. -/
import Derived.Test.YtlgippliihgcjaaDoorTB
namespace Go.Proofs.YtlgippliihgcjaaDoor.C
set_option linter.unusedVariables false
set_option linter.unusedSimpArgs false
open Go.RowKit Go.Proofs.YtlgippliihgcjaaDoorW.PrintWords Go.Proofs.YtlgippliihgcjaaDoorW.PrintLast

theorem eq_tk (d : Nat) (w : World) (x0 y0 : Int) (x1 y1 : Int) (x2 y2 : ByteArray) (x3 y3 : ByteArray) (x4 y4 : ByteArray) :
    (Op.equalIn (d + 2) 68 (.agg #[.int .i64 x0, .int .i64 x1, .string x2, .string x3, .string x4]) (.agg #[.int .i64 y0, .int .i64 y1, .string y2, .string y3, .string y4])).run Tryd.prog w = .ok (x0 == y0 && (x1 == y1 && (x2.toList == y2.toList && (x3.toList == y3.toList && x4.toList == y4.toList)))) w := by
  refine eqA_of Tryd.underlying68 (by kernel_rfl) ?_
  refine eqf_cons (by rfl) (by go_simp; rfl) (by go_simp; rfl) (by go_simp) ?_
  refine eqf_cons (by rfl) (by go_simp; rfl) (by go_simp; rfl) (by go_simp) ?_
  refine eqf_cons (by rfl) (by go_simp; rfl) (by go_simp; rfl) (by go_simp) ?_
  refine eqf_cons (by rfl) (by go_simp; rfl) (by go_simp; rfl) (by go_simp) ?_
  exact eqf_last (by rfl) (by go_simp; rfl) (by go_simp; rfl) (by go_simp)
attribute [local go_sem high] eq_tk

set_option maxHeartbeats 4000000 in
set_option maxRecDepth 100000 in
theorem eqInts_same (A B : Option Addr) (c d : Nat) (l : List Int) (w : World) (hA : IRead w A l) (hB : IRead w B l) (hl : l.length ≤ 1000) :
    Calls Tryd.prog 65 #[.slice A l.length c, .slice B l.length d] w fun e w' => e = .returned (.bool true) ∧ Below w.heap.size w w' := by
  have HA := Lib.hid hA
  have HB := Lib.hid hB
  clear hA hB
  go_enter Tryd.func65, Tryd.ntmps65
  go_wp2_with fail
  go_loopw [13] (fun i wr => ∃ kk : Nat, kk ≤ l.length ∧ i = .int .i64 kk ∧ Below w.heap.size w wr) (fun i _ => l.length - (intOf i).toNat)
  case atStart => exact ⟨0, by omega, rfl, Below.refl _ _⟩
  case round =>
    obtain ⟨kk, hk, rfl, hb⟩ := hrel
    have HBW := Lib.hid hb
    by_cases hlt : (kk : Int) < (l.length : Int)
    · obtain ⟨x, hx⟩ : ∃ x, l[kk]? = some x := ⟨_, List.getElem?_eq_getElem (by omega)⟩
      obtain ⟨ad, rfl, hcell⟩ := iread_at HA.out HBW.out hx
      obtain ⟨ad2, rfl, hcell2⟩ := iread_at HB.out HBW.out hx
      have hxx : (x != x) = false := by simp
      clear hx hb
      go_wp2_with fail
      go_quiet (fail)
      go_wp2_with fail
      go_roundw
      case rel => exact ⟨kk + 1, by omega, by go_num, pw_below_drewN HBW.out _⟩
      case measure => simp [intOf]; omega
    · obtain rfl : kk = l.length := by omega
      go_wp2_with fail
      go_ret
      exact ⟨rfl, HBW.out⟩

set_option maxHeartbeats 4000000 in
set_option maxRecDepth 100000 in
theorem eqTks_same (A B : Option Addr) (c d : Nat) (l : List Tk) (w : World) (hA : TRead w A l) (hB : TRead w B l) (hl : l.length ≤ 1000) :
    Calls Tryd.prog 66 #[.slice A l.length c, .slice B l.length d] w fun e w' => e = .returned (.bool true) ∧ Below w.heap.size w w' := by
  have HA := Lib.hid hA
  have HB := Lib.hid hB
  clear hA hB
  go_enter Tryd.func66, Tryd.ntmps66
  go_wp2_with fail
  go_loopw [13] (fun i wr => ∃ kk : Nat, kk ≤ l.length ∧ i = .int .i64 kk ∧ Below w.heap.size w wr) (fun i _ => l.length - (intOf i).toNat)
  case atStart => exact ⟨0, by omega, rfl, Below.refl _ _⟩
  case round =>
    obtain ⟨kk, hk, rfl, hb⟩ := hrel
    have HBW := Lib.hid hb
    by_cases hlt : (kk : Int) < (l.length : Int)
    · obtain ⟨t, ht⟩ : ∃ t, l[kk]? = some t := ⟨_, List.getElem?_eq_getElem (by omega)⟩
      obtain ⟨ad, rfl, c0, c1, c2, c3, c4⟩ := TRead.at_ (Kd.C_below HA.out HBW.out) ht
      obtain ⟨ad2, rfl, d0, d1, d2, d3, d4⟩ := TRead.at_ (Kd.C_below HB.out HBW.out) ht
      clear ht hb
      go_wp2_with fail
      go_quiet (fail)
      go_wp2_with fail
      go_roundw
      case rel => exact ⟨kk + 1, by omega, by go_num, pw_below_drewN HBW.out _⟩
      case measure => simp [intOf]; omega
    · obtain rfl : kk = l.length := by omega
      go_wp2_with fail
      go_ret
      exact ⟨rfl, HBW.out⟩

set_option maxHeartbeats 4000000 in
set_option maxRecDepth 100000 in
theorem same_ans (a : An) (A1 A2 B1 B2 : Option Addr) (k1 k2 m1 m2 : Nat) (w : World) (hA1 : IRead w A1 a.ids) (hA2 : TRead w A2 a.took) (hB1 : IRead w B1 a.ids) (hB2 : TRead w B2 a.took) (hl1 : a.ids.length ≤ 1000) (hl2 : a.took.length ≤ 1000) :
    Calls Tryd.prog 29 #[.agg #[.int .i64 a.code, .slice A1 a.ids.length k1, .slice A2 a.took.length k2], .agg #[.int .i64 a.code, .slice B1 a.ids.length m1, .slice B2 a.took.length m2]] w fun e w' => e = .returned (.bool true) ∧ Below w.heap.size w w' := by
  have HA1 := Lib.hid hA1
  have HA2 := Lib.hid hA2
  have HB1 := Lib.hid hB1
  have HB2 := Lib.hid hB2
  have hc0 : (a.code == a.code) = true := by simp
  clear hA1 hA2 hB1 hB2
  go_enter Tryd.func29, Tryd.ntmps29
  go_wp2_with fail
  have hx := (below_alloc (Below.refl (w.alloc (.cells #[.int .i64 a.code, .slice A1 a.ids.length k1, .slice A2 a.took.length k2] 56)).heap.size (w.alloc (.cells #[.int .i64 a.code, .slice A1 a.ids.length k1, .slice A2 a.took.length k2] 56))) (.cells #[.int .i64 a.code, .slice B1 a.ids.length m1, .slice B2 a.took.length m2] 56)).block w.heap.size (by simp)
  have HX := Lib.hid (hx.trans (heap_alloc_new w (.cells #[.int .i64 a.code, .slice A1 a.ids.length k1, .slice A2 a.took.length k2] 56)))
  have HY : Hid (((w.alloc (.cells #[.int .i64 a.code, .slice A1 a.ids.length k1, .slice A2 a.took.length k2] 56)).alloc (.cells #[.int .i64 a.code, .slice B1 a.ids.length m1, .slice B2 a.took.length m2] 56)).heap[w.heap.size + 1]? = some (.cells #[.int .i64 a.code, .slice B1 a.ids.length m1, .slice B2 a.took.length m2] 56 (0, 0))) := Lib.hid (heap_alloc2_new w _ _)
  have HB := Lib.hid (below_alloc (below_alloc (Below.refl w.heap.size w) (.cells #[.int .i64 a.code, .slice A1 a.ids.length k1, .slice A2 a.took.length k2] 56)) (.cells #[.int .i64 a.code, .slice B1 a.ids.length m1, .slice B2 a.took.length m2] 56))
  clear hx
  generalize (w.alloc (.cells #[.int .i64 a.code, .slice A1 a.ids.length k1, .slice A2 a.took.length k2] 56)).alloc (.cells #[.int .i64 a.code, .slice B1 a.ids.length m1, .slice B2 a.took.length m2] 56) = w1 at HX HY HB ⊢
  generalize hg3 : w.heap.size + 1 = g3 at HY ⊢
  generalize hg2 : w.heap.size = g2 at HX ⊢
  have HG2 := Lib.hid hg2
  clear hg2 hg3
  refine (eqInts_same A1 B1 k1 m1 a.ids _ (Kd.C_below HA1.out HB.out) (Kd.C_below HB1.out HB.out) hl1).mono ?_
  rintro e w2 ⟨rfl, hb2⟩
  have HBB := Lib.hid (HB.out.trans (hb2.mono HB.out.size))
  have z1 : w2.cell? ⟨g2, 2, none⟩ = some (.slice A2 a.took.length k2) := (blk_cell ((hb2.block g2 (blk_lt HX.out)).trans HX.out) 2).trans rfl
  have z2 : w2.cell? ⟨g3, 2, none⟩ = some (.slice B2 a.took.length m2) := (blk_cell ((hb2.block g3 (blk_lt HY.out)).trans HY.out) 2).trans rfl
  clear hb2
  go_wp2_with fail
  refine (eqTks_same A2 B2 k2 m2 a.took _ (Kd.C_below HA2.out HBB.out) (Kd.C_below HB2.out HBB.out) hl2).mono ?_
  rintro e w3 ⟨rfl, hb3⟩
  have HBC := Lib.hid (HBB.out.trans (hb3.mono HBB.out.size))
  clear hb3
  go_wp2_with fail
  go_ret
  exact ⟨rfl, HBC.out⟩
end Go.Proofs.YtlgippliihgcjaaDoor.C
