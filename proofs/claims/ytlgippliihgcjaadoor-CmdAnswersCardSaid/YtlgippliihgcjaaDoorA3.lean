/- cmd.WriteAnswer. -/
import Derived.Test.YtlgippliihgcjaaDoorA2
namespace Go.Proofs.YtlgippliihgcjaaDoor.C
set_option linter.unusedVariables false
set_option linter.unusedSimpArgs false
open Go.RowKit Go.Proofs.YtlgippliihgcjaaDoorW.PrintWords

/-- A message's bytes; an answer's. -/
def tkB (t : Tk) : List Int := numB t.id.toNat ++ numB t.count.toNat ++ txtB t.receipt ++ txtB t.body ++ txtB t.group
def tksB (l : List Tk) : List Int := l.flatMap tkB
def encA (a : An) : List Int := numB a.code.toNat ++ rowB a.ids ++ numB a.took.length ++ tksB a.took
theorem tksB_snoc {l : List Tk} {k : Nat} {n : Tk} (h : l[k]? = some n) : tksB (l.take (k + 1)) = tksB (l.take k) ++ tkB n := by
  rw [tksB, tksB, List.take_add_one, h, List.flatMap_append]; simp
theorem tkOk_iff {t : Tk} (h : tkOk t = true) : (0 ≤ t.id ∧ t.id ≤ 4611686018427387904) ∧ (0 ≤ t.count ∧ t.count ≤ 4611686018427387904) ∧ t.receipt.size ≤ 256 ∧ t.body.size ≤ 256 ∧ t.group.size ≤ 256 := by
  simp only [tkOk, Bool.and_eq_true] at h
  exact ⟨numOk_iff h.1, numOk_iff h.2.1, txtOk_iff h.2.2.1, txtOk_iff h.2.2.2.1, txtOk_iff h.2.2.2.2⟩
theorem tkB_len {t : Tk} (h : tkOk t = true) : (tkB t).length ≤ 900 := by
  obtain ⟨⟨a, b⟩, ⟨c, d⟩, e, f, g⟩ := tkOk_iff h
  have h1 := numB_len' (n := t.id.toNat) (by omega)
  have h2 := numB_len' (n := t.count.toNat) (by omega)
  have h3 := txtB_len t.receipt (by omega)
  have h4 := txtB_len t.body (by omega)
  have h5 := txtB_len t.group (by omega)
  simp only [tkB, List.length_append]
  omega
theorem tksB_len {l : List Tk} (h : l.all tkOk = true) : (tksB l).length ≤ 900 * l.length := by
  induction l with
  | nil => simp [tksB]
  | cons a l ih =>
    simp only [List.all_cons, Bool.and_eq_true] at h
    have h1 := tkB_len h.1
    have h2 := ih h.2
    rw [tksB, List.flatMap_cons, List.length_append, List.length_cons]
    rw [tksB] at h2
    omega
theorem tksB_take_len {l : List Tk} (h : l.all tkOk = true) (k : Nat) : (tksB (l.take k)).length ≤ 900 * l.length := by
  have := tksB_len (all_take h k)
  have : (l.take k).length ≤ l.length := List.length_take_le' _ _
  omega
theorem rightA_n {a : An} (h : rightA a = true) : numOk a.code = true ∧ a.ids.length ≤ 10 ∧ a.took.length ≤ 10 ∧ a.ids.all numOk = true ∧ a.took.all tkOk = true := by
  simp only [rightA, Bool.and_eq_true, decide_eq_true_eq] at h
  exact ⟨h.1, h.2.1, h.2.2.1, h.2.2.2.1, h.2.2.2.2⟩

theorem rightA_is (a : An) (q : Bool) (hr : rightA a = q) (A1 A2 : Option Addr) (k1 k2 : Nat) (w : World) (h1 : IRead w A1 a.ids) (h2 : TRead w A2 a.took) :
    Calls Tryd.prog 28 #[.agg #[.int .i64 a.code, .slice A1 a.ids.length k1, .slice A2 a.took.length k2]] w fun e w' => e = .returned (.bool q) ∧ Below w.heap.size w w' := by
  rw [← hr]; exact rightA_any a A1 A2 k1 k2 w h1 h2

set_option maxHeartbeats 4000000 in
set_option maxRecDepth 100000 in
theorem writeA_no (a : An) (A1 A2 : Option Addr) (k1 k2 : Nat) (w : World) (h1 : IRead w A1 a.ids) (h2 : TRead w A2 a.took) (hr : rightA a = false) :
    Calls Tryd.prog 26 #[.agg #[.int .i64 a.code, .slice A1 a.ids.length k1, .slice A2 a.took.length k2]] w fun e w' => ∃ v, e = .returned (.tuple #[.slice none 0 0, v]) ∧ ErrIs w' w.heap.size v 0 1 ∧ Below w.heap.size w w' := by
  have HC := Lib.hid (rightA_is a false hr A1 A2 k1 k2 _ (Kd.C_alloc h1 (.cells #[.int .i64 a.code, .slice A1 a.ids.length k1, .slice A2 a.took.length k2] 56)) (Kd.C_alloc h2 (.cells #[.int .i64 a.code, .slice A1 a.ids.length k1, .slice A2 a.took.length k2] 56)))
  clear h1 h2 hr
  go_enter Tryd.func26, Tryd.ntmps26
  go_wp2_with fail
  refine HC.out.mono ?_
  rintro e w1 ⟨rfl, hb⟩
  have HB := Lib.hid ((below_alloc (Below.refl w.heap.size w) _).trans (hb.mono (by simp)))
  clear hb HC
  go_wp2_with fail
  refine (refused_any 1 0 _).mono ?_
  rintro e w2 ⟨v, rfl, he, hb2⟩
  have HE := Lib.hid (he.lower HB.out.size)
  have HB2 := Lib.hid (HB.out.trans (hb2.mono HB.out.size))
  clear he hb2
  go_wp2_with fail
  go_ret2
  exact ⟨_, rfl, HE.out, HB2.out⟩

set_option maxHeartbeats 8000000 in
set_option maxRecDepth 100000 in
theorem writeA_yes (a : An) (A1 A2 : Option Addr) (k1 k2 : Nat) (w : World) (h1 : IRead w A1 a.ids) (h2 : TRead w A2 a.took) (hr : rightA a = true) :
    Calls Tryd.prog 26 #[.agg #[.int .i64 a.code, .slice A1 a.ids.length k1, .slice A2 a.took.length k2]] w fun e w' => ∃ v, e = .returned (.tuple #[v, .nilIface]) ∧ BOwn w' w.heap.size v (encA a) ∧ Below w.heap.size w w' := by
  obtain ⟨hc, hl1, hl2, hi, ht⟩ := rightA_n hr
  obtain ⟨hc0, hc1⟩ := numOk_iff hc
  have HC := Lib.hid (rightA_is a true hr A1 A2 k1 k2 _ (Kd.C_alloc h1 (.cells #[.int .i64 a.code, .slice A1 a.ids.length k1, .slice A2 a.took.length k2] 56)) (Kd.C_alloc h2 (.cells #[.int .i64 a.code, .slice A1 a.ids.length k1, .slice A2 a.took.length k2] 56)))
  have H1 := Lib.hid h1
  have H2 := Lib.hid h2
  have HI := Lib.hid hi
  have HT := Lib.hid ht
  have hlc := numB_len' (n := a.code.toNat) (by omega)
  have hlr : (rowB a.ids).length ≤ 100 := by
    have h3 := fm_len hi
    have h4 := numB_len' (n := a.ids.length) (by omega)
    rw [rowB, List.length_append]; omega
  clear h1 h2 hr hi ht hc
  go_enter Tryd.func26, Tryd.ntmps26
  go_wp2_with fail
  refine HC.out.mono ?_
  rintro e w1 ⟨rfl, hb⟩
  have HX : Hid (w1.heap[w.heap.size]? = some (.cells #[.int .i64 a.code, .slice A1 a.ids.length k1, .slice A2 a.took.length k2] 56 (0, 0))) := (hb.block _ (by simp)).trans (heap_alloc_new _ _)
  have HB := Lib.hid ((below_alloc (Below.refl w.heap.size w) _).trans (hb.mono (by simp)))
  clear hb HC
  obtain ⟨g, hg⟩ : ∃ g, w.heap.size = g := ⟨_, rfl⟩
  have HG := Lib.hid hg
  have z0 : w1.cell? ⟨w.heap.size, 0, none⟩ = some (.int .i64 a.code) := (blk_cell HX.out 0).trans rfl
  have z1 : w1.cell? ⟨w.heap.size, 1, none⟩ = some (.slice A1 a.ids.length k1) := (blk_cell HX.out 1).trans rfl
  have z2 : w1.cell? ⟨w.heap.size, 2, none⟩ = some (.slice A2 a.took.length k2) := (blk_cell HX.out 2).trans rfl
  clear hg
  go_wp2_with fail
  go_region_held3 (fun w' => w'.cell? ⟨w.heap.size, 0, none⟩ = some (.int .i64 a.code) ∧ w'.cell? ⟨w.heap.size, 1, none⟩ = some (.slice A1 a.ids.length k1) ∧ w'.cell? ⟨w.heap.size, 2, none⟩ = some (.slice A2 a.took.length k2))
    (first
      | exact ⟨x0, x1, x2⟩
      | exact ⟨y0, y1, y2⟩
      | exact ⟨s0, s1, s2⟩
      | go_keep)
    (first
      | (go_at_call_of 32 (Value.slice none 0 0); refine (num_own (.slice none 0 0) [] 0 a.code _ (BOwn.nil _ _) (by simp) hc0 (by omega)).mono ?_; rintro e w2 ⟨v2, rfl, ho2, hb2⟩; have HX2 := Lib.hid (((below_drew1 (Below.refl w1.heap.size w1)).trans hb2).block _ (blk_lt HX.out) |>.trans HX.out); have HB2 := Lib.hid ((below_drew1 HB.out).trans (hb2.mono HB.out.size)); have HO2 := Lib.hid ho2; have s0 := (blk_cell HX2.out 0).trans rfl; have s1 := (blk_cell HX2.out 1).trans rfl; have s2 := (blk_cell HX2.out 2).trans rfl; clear ho2 hb2)
      | (go_at_call 60; refine (nums_own _ _ _ A1 k1 a.ids _ HO2.out (by simp; omega) (Kd.C_below H1.out HB2.out) (by omega) HI.out).mono ?_; rintro e w3 ⟨v3, rfl, ho3, hb3⟩; have HX3 := Lib.hid ((hb3.block _ (blk_lt HX2.out)).trans HX2.out); have HB3 := Lib.hid (HB2.out.trans (hb3.mono HB2.out.size)); have HO3 := Lib.hid ho3; have y0 := (blk_cell HX3.out 0).trans rfl; have y1 := (blk_cell HX3.out 1).trans rfl; have y2 := (blk_cell HX3.out 2).trans rfl; clear ho3 hb3)
      | (go_at_call 32; refine (num_own _ _ _ _ _ HO3.out (by simp only [List.length_append, List.length_nil]; omega) (by omega) (by omega)).mono ?_; rintro e w4 ⟨v4, rfl, ho4, hb4⟩; have HX4 := Lib.hid ((hb4.block _ (blk_lt HX3.out)).trans HX3.out); have HB4 := Lib.hid (HB3.out.trans (hb4.mono HB3.out.size)); have HO4 := Lib.hid ho4; have x0 := (blk_cell HX4.out 0).trans rfl; have x1 := (blk_cell HX4.out 1).trans rfl; have x2 := (blk_cell HX4.out 2).trans rfl; clear ho4 hb4))
  go_wp2_with fail
  clear s0 s1 s2 y0 y1 y2 z0 z1 z2 x0 x1 x2
  have HV4 : Hid (BOwn w4 w.heap.size v4 (numB a.code.toNat ++ rowB a.ids ++ numB a.took.length)) := Lib.hid (by simpa using HO4.out.lower HB3.out.size)
  have hlt4 := numB_len' (n := a.took.length) (by omega)
  have hl4 : (numB a.code.toNat ++ rowB a.ids ++ numB a.took.length).length ≤ 200 := by simp only [List.length_append]; omega
  clear HO4 HO3 HO2 HX2 HX3 HB2 HB3 HX HB
  go_loopw [4, 24] (fun v i wr => ∃ k : Nat, k ≤ a.took.length ∧ i = .int .i64 k ∧ Hid (BOwn wr w.heap.size v (numB a.code.toNat ++ rowB a.ids ++ numB a.took.length ++ tksB (a.took.take k))) ∧ Hid (Below w.heap.size w wr)) (fun _ i _ => a.took.length - (intOf i).toNat)
  case atStart => exact ⟨0, by omega, rfl, Lib.hid (by simpa [tksB] using HV4.out), HB4⟩
  case round =>
    obtain ⟨k, hk, rfl, HV, HW⟩ := hrel
    by_cases hlt : k < a.took.length
    · obtain ⟨t, ht⟩ : ∃ t, a.took[k]? = some t := ⟨_, List.getElem?_eq_getElem hlt⟩
      obtain ⟨ad, rfl, c0, c1, c2, c3, c4⟩ := TRead.at_ (Kd.C_below H2.out HW.out) ht
      have HK := Lib.hid ht
      obtain ⟨⟨p1, p2⟩, ⟨p3, p4⟩, p5, p6, p7⟩ := tkOk_iff (all_at HT.out ht)
      have hlp := tksB_take_len HT.out k
      have hll : (numB a.code.toNat ++ rowB a.ids ++ numB a.took.length ++ tksB (a.took.take k)).length ≤ 10000 := by rw [List.length_append]; omega
      clear ht hlp
      go_wp2_with fail
      have HX5 : Hid ((wr.alloc (.cells #[.int .i64 t.id, .int .i64 t.count, .string t.receipt, .string t.body, .string t.group] 68)).heap[wr.heap.size]? = some (.cells #[.int .i64 t.id, .int .i64 t.count, .string t.receipt, .string t.body, .string t.group] 68 (0, 0))) := heap_alloc_new _ _
      have HB5 := Lib.hid (below_alloc HW.out (.cells #[.int .i64 t.id, .int .i64 t.count, .string t.receipt, .string t.body, .string t.group] 68))
      have HV5 := Lib.hid (HV.out.below (below_alloc (Below.refl _ _) (.cells #[.int .i64 t.id, .int .i64 t.count, .string t.receipt, .string t.body, .string t.group] 68)))
      obtain ⟨gt, hgt⟩ : ∃ gt, wr.heap.size = gt := ⟨_, rfl⟩
      rw [hgt] at HX5 ⊢
      generalize wr.alloc (.cells #[.int .i64 t.id, .int .i64 t.count, .string t.receipt, .string t.body, .string t.group] 68) = w5 at HX5 HB5 HV5 ⊢
      have a0 := (blk_cell HX5.out 0).trans rfl
      have a1 := (blk_cell HX5.out 1).trans rfl
      have a2 := (blk_cell HX5.out 2).trans rfl
      have a3 := (blk_cell HX5.out 3).trans rfl
      have a4 := (blk_cell HX5.out 4).trans rfl
      clear hgt c0 c1 c2 c3 c4
      go_region_held3 (fun w' => w'.cell? ⟨gt, 0, none⟩ = some (.int .i64 t.id) ∧ w'.cell? ⟨gt, 1, none⟩ = some (.int .i64 t.count) ∧ w'.cell? ⟨gt, 2, none⟩ = some (.string t.receipt) ∧ w'.cell? ⟨gt, 3, none⟩ = some (.string t.body) ∧ w'.cell? ⟨gt, 4, none⟩ = some (.string t.group))
        (first
          | exact ⟨f0, f1, f2, f3, f4⟩
          | exact ⟨b0, b1, b2, b3, b4⟩
          | go_keep)
        (first
          | (go_at_call_of 32 (Value.int .i64 t.id); refine (num_own _ _ _ t.id _ (HV5.out.below (below_drew1 (Below.refl _ _))) (by omega) p1 (by omega)).mono ?_; rintro e w6 ⟨v6, rfl, ho, hb⟩; have HX6 := Lib.hid ((((below_drew1 (Below.refl w5.heap.size w5)).trans hb).block _ (blk_lt HX5.out)).trans HX5.out); have HB6 := Lib.hid ((below_drew1 HB5.out).trans (hb.mono HB5.out.size)); have HO6 := Lib.hid ho; have b0 := (blk_cell HX6.out 0).trans rfl; have b1 := (blk_cell HX6.out 1).trans rfl; have b2 := (blk_cell HX6.out 2).trans rfl; have b3 := (blk_cell HX6.out 3).trans rfl; have b4 := (blk_cell HX6.out 4).trans rfl; clear ho hb)
          | (go_at_call 32; refine (num_own _ _ _ t.count _ HO6.out (by simp only [List.length_append] at hll ⊢; have := numB_len' (n := t.id.toNat) (by omega); omega) p3 (by omega)).mono ?_; rintro e w7 ⟨v7, rfl, ho, hb⟩; have HX7 := Lib.hid (((hb).block _ (blk_lt HX6.out)).trans HX6.out); have HB7 := Lib.hid (HB6.out.trans (hb.mono HB6.out.size)); have HO7 := Lib.hid ho; have f0 := (blk_cell HX7.out 0).trans rfl; have f1 := (blk_cell HX7.out 1).trans rfl; have f2 := (blk_cell HX7.out 2).trans rfl; have f3 := (blk_cell HX7.out 3).trans rfl; have f4 := (blk_cell HX7.out 4).trans rfl; clear ho hb))
      go_wp2_with fail
      clear a0 a1 a2 a3 a4 b0 b1 b2 b3 b4
      go_region_held3 (fun w' => w'.cell? ⟨gt, 0, none⟩ = some (.int .i64 t.id) ∧ w'.cell? ⟨gt, 1, none⟩ = some (.int .i64 t.count) ∧ w'.cell? ⟨gt, 2, none⟩ = some (.string t.receipt) ∧ w'.cell? ⟨gt, 3, none⟩ = some (.string t.body) ∧ w'.cell? ⟨gt, 4, none⟩ = some (.string t.group))
        (first
          | exact ⟨g0, g1, g2, g3, g4⟩
          | exact ⟨e0, e1, e2, e3, e4⟩
          | exact ⟨d0, d1, d2, d3, d4⟩
          | go_keep)
        (first
          | (go_at_call_of 34 (Value.string t.receipt); refine (text_own _ _ _ t.receipt _ (HO7.out.below (below_drew1 (Below.refl _ _))) (by have q1 := numB_len' (n := t.id.toNat) (by omega); have q2 := numB_len' (n := t.count.toNat) (by omega); simp only [List.length_append] at hll ⊢; omega) (by omega)).mono ?_; rintro e w8 ⟨v8, rfl, ho, hb⟩; have HX8 := Lib.hid ((((below_drew1 (Below.refl w7.heap.size w7)).trans hb).block _ (blk_lt HX7.out)).trans HX7.out); have HB8 := Lib.hid ((below_drew1 HB7.out).trans (hb.mono HB7.out.size)); have HO8 := Lib.hid ho; have d0 := (blk_cell HX8.out 0).trans rfl; have d1 := (blk_cell HX8.out 1).trans rfl; have d2 := (blk_cell HX8.out 2).trans rfl; have d3 := (blk_cell HX8.out 3).trans rfl; have d4 := (blk_cell HX8.out 4).trans rfl; clear ho hb)
          | (go_at_call_of 34 (Value.string t.body); refine (text_own _ _ _ t.body _ HO8.out (by have q1 := numB_len' (n := t.id.toNat) (by omega); have q2 := numB_len' (n := t.count.toNat) (by omega); have q3 := txtB_len t.receipt (by omega); simp only [List.length_append] at hll ⊢; omega) (by omega)).mono ?_; rintro e w9 ⟨v9, rfl, ho, hb⟩; have HX9 := Lib.hid (((hb).block _ (blk_lt HX8.out)).trans HX8.out); have HB9 := Lib.hid (HB8.out.trans (hb.mono HB8.out.size)); have HO9 := Lib.hid ho; have e0 := (blk_cell HX9.out 0).trans rfl; have e1 := (blk_cell HX9.out 1).trans rfl; have e2 := (blk_cell HX9.out 2).trans rfl; have e3 := (blk_cell HX9.out 3).trans rfl; have e4 := (blk_cell HX9.out 4).trans rfl; clear ho hb)
          | (go_at_call 34; refine (text_own _ _ _ t.group _ HO9.out (by have q1 := numB_len' (n := t.id.toNat) (by omega); have q2 := numB_len' (n := t.count.toNat) (by omega); have q3 := txtB_len t.receipt (by omega); have q4 := txtB_len t.body (by omega); simp only [List.length_append] at hll ⊢; omega) (by omega)).mono ?_; rintro e w10 ⟨v10, rfl, ho, hb⟩; have HX10 := Lib.hid (((hb).block _ (blk_lt HX9.out)).trans HX9.out); have HB10 := Lib.hid (HB9.out.trans (hb.mono HB9.out.size)); have HO10 := Lib.hid ho; have g0 := (blk_cell HX10.out 0).trans rfl; have g1 := (blk_cell HX10.out 1).trans rfl; have g2 := (blk_cell HX10.out 2).trans rfl; have g3 := (blk_cell HX10.out 3).trans rfl; have g4 := (blk_cell HX10.out 4).trans rfl; clear ho hb))
      go_wp2_with fail
      have HV10 : Hid (BOwn w10 w.heap.size v10 (numB a.code.toNat ++ rowB a.ids ++ numB a.took.length ++ tksB (a.took.take (k + 1)))) := Lib.hid (by
        rw [tksB_snoc HK.out, tkB]
        simpa [List.append_assoc] using HO10.out.lower HB9.out.size)
      clear f0 f1 f2 f3 f4 d0 d1 d2 d3 d4 e0 e1 e2 e3 e4 g0 g1 g2 g3 g4
      go_roundw
      case rel => exact ⟨k + 1, by omega, by go_num, HV10, HB10⟩
      case measure => simp [intOf]; omega
    · obtain rfl : k = a.took.length := by omega
      have HV12 : Hid (BOwn _ w.heap.size _ (encA a)) := Lib.hid (by rw [encA]; simpa using HV.out)
      go_wp2_with fail
      go_ret2
      exact ⟨_, rfl, HV12.out, HW.out⟩

end Go.Proofs.YtlgippliihgcjaaDoor.C
