/- Rows of messages of the call's own; law's own Answer and Alike; cmd.ReadAnswer; the document's reader of an answer. -/
import Derived.Test.YtlgippliihgcjaaDoorK1
import Derived.Test.YtlgippliihgcjaaDoorS7
import Derived.Laws.ResultCell
import Derived.Deep.QuietTactic
import Derived.BigQuiet
import Derived.Test.YtlgippliihgcjaaDoorP4
import Derived.Test.YtlgippliihgcjaaDoorTA
import Derived.Test.YtlgippliihgcjaaDoorWEqStruct
namespace Go.Proofs.YtlgippliihgcjaaDoor.C
set_option linter.unusedVariables false
set_option linter.unusedSimpArgs false
open Go.RowKit Go.Proofs.YtlgippliihgcjaaDoorW.PrintWords

/-- The cells of messages. -/
def tkC (l : List Tk) : List Value := l.flatMap Tk.cells
theorem tkC_last (l : List Tk) (t : Tk) : tkC (l ++ [t]) = tkC l ++ t.cells := by simp [tkC]
theorem tkC_get : ∀ (l : List Tk) (j i : Nat) (t : Tk) (u : Value), l[j]? = some t → t.cells[i]? = some u → (tkC l)[j * 5 + i]? = some u
  | [], _, _, _, _, h, _ => by simp at h
  | x :: l, 0, i, t, u, h, hu => by
    simp only [List.getElem?_cons_zero, Option.some.injEq] at h
    subst h
    have hi : i < x.cells.length := (List.getElem?_eq_some_iff.1 hu).1
    rw [Nat.zero_mul, Nat.zero_add, tkC, List.flatMap_cons, List.getElem?_append_left hi]
    exact hu
  | x :: l, j + 1, i, t, u, h, hu => by
    rw [List.getElem?_cons_succ] at h
    have ih := tkC_get l j i t u h hu
    have hl : x.cells.length = 5 := rfl
    rw [tkC, List.flatMap_cons, List.getElem?_append_right (by rw [hl]; omega), hl, show (j + 1) * 5 + i - 5 = j * 5 + i by omega]
    exact ih
/-- A row of messages of the call's own. -/
abbrev TOwn (e : TypeId) (w : World) (base : Nat) (v : Value) (l : List Tk) : Prop := w.ownsRow base e 5 v l.length (tkC l)
theorem TOwn.nil (e : TypeId) (w : World) (base : Nat) : TOwn e w base (.slice none 0 0) [] := own_nil w base e 5
theorem TOwn.below {e : TypeId} {w w1 : World} {base : Nat} {v : Value} {l : List Tk} (h : TOwn e w base v l) (hb : Below w.heap.size w w1) : TOwn e w1 base v l := pw_own_below h hb
theorem TOwn.lower {e : TypeId} {w : World} {base base' : Nat} {v : Value} {l : List Tk} (h : TOwn e w base v l) (hb : base' ≤ base) : TOwn e w base' v l := own_weaken h hb
theorem TOwn.form {e : TypeId} {w : World} {base : Nat} {v : Value} {l : List Tk} (h : TOwn e w base v l) : ∃ A c, v = .slice A l.length c ∧ l.length ≤ c ∧ TRead w A l := by
  rcases h.2 with ⟨rfl, hn⟩ | ⟨g, cap, cur, rfl, hg, hh, hc1, hc2, _⟩
  · obtain rfl : l = [] := List.eq_nil_of_length_eq_zero hn
    exact ⟨none, 0, rfl, Nat.le_refl _, Kd.C_nil _ _⟩
  · refine ⟨some ⟨g, 0, none⟩, cap, rfl, hc1, rfl, by unfold maxLen at hc2; omega, fun _ => ⟨_, rfl, fun j t hj => ⟨t.cells, rfl, kTk_K _ _, fun i u hu => ?_⟩⟩⟩
    exact h.cells (g := g) rfl (j * 5 + i) u (tkC_get l j i t u hj hu)
theorem info_rtk : (Tryd.prog.info? 113).map (fun i => (i.zero, i.size, i.bytes)) = some (some (.agg #[.int .i64 0, .int .i64 0, .string ⟨#[]⟩, .string ⟨#[]⟩, .string ⟨#[]⟩]), 5, 64) := by kernel_rfl

set_option maxHeartbeats 16000000 in
set_option maxRecDepth 100000 in
theorem lanswer_any (a : An) (A1 A2 : Option Addr) (k1 k2 : Nat) (w : World) (hT : TRead w A2 a.took) (hlen : a.took.length ≤ 1000) :
    Calls Tryd.prog 24 #[.agg #[.int .i64 a.code, .slice A1 a.ids.length k1, .slice A2 a.took.length k2]] w fun e w' => ∃ v, e = .returned (.agg #[.int .i64 a.code, .slice A1 a.ids.length k1, v]) ∧ TOwn 113 w' w.heap.size v a.took ∧ Below w.heap.size w w' := by
  have HT := Lib.hid hT
  clear hT
  go_enter Tryd.func24, Tryd.ntmps24
  go_wp2_with fail
  have h3 := three_new w (.cells #[.int .i64 a.code, .slice A1 a.ids.length k1, .slice A2 a.took.length k2] 56) (.cells #[.int .i64 0, .slice none 0 0, .slice none 0 0] 61) (.cells #[.int .i64 a.code, .slice A1 a.ids.length k1, .slice none 0 0] 61)
  have hb3 := below_alloc (below_alloc (below_alloc (Below.refl w.heap.size w) (.cells #[.int .i64 a.code, .slice A1 a.ids.length k1, .slice A2 a.took.length k2] 56)) (.cells #[.int .i64 0, .slice none 0 0, .slice none 0 0] 61)) (.cells #[.int .i64 a.code, .slice A1 a.ids.length k1, .slice none 0 0] 61)
  generalize ((w.alloc (.cells #[.int .i64 a.code, .slice A1 a.ids.length k1, .slice A2 a.took.length k2] 56)).alloc (.cells #[.int .i64 0, .slice none 0 0, .slice none 0 0] 61)).alloc (.cells #[.int .i64 a.code, .slice A1 a.ids.length k1, .slice none 0 0] 61) = w1 at h3 hb3 ⊢
  obtain ⟨_, x2, x3⟩ := h3
  have HX2 := Lib.hid x2
  have HX3 := Lib.hid x3
  have HB3 := Lib.hid hb3
  clear x2 x3 hb3
  generalize hg2 : w.heap.size + 1 = g2 at HX2 HX3 ⊢
  generalize hg3 : g2 + 1 = g3 at HX3 ⊢
  have hne : g2 ≠ g3 := by omega
  have hne' : g3 ≠ g2 := by omega
  have hle2 : w.heap.size ≤ g2 := by omega
  have hle3 : w.heap.size ≤ g3 := by omega
  clear hg2 hg3
  go_loopw [14] (fun i wr => ∃ (kk : Nat) (v : Value), kk ≤ a.took.length ∧ i = .int .i64 kk ∧ Hid (wr.heap[g3]? = some (.cells #[.int .i64 a.code, .slice A1 a.ids.length k1, v] 61 (0, 0))) ∧ Hid (wr.heap[g2]? = some (.cells #[.int .i64 0, .slice none 0 0, .slice none 0 0] 61 (0, 0))) ∧ Hid (TOwn 113 wr w.heap.size v (a.took.take kk)) ∧ Below w.heap.size w wr) (fun i _ => a.took.length - (intOf i).toNat)
  case atStart => exact ⟨0, _, by omega, rfl, HX3, HX2, Lib.hid (TOwn.nil _ _ _), HB3.out⟩
  case round =>
    obtain ⟨kk, v, hk, rfl, HX, HY, HO, hb⟩ := hrel
    have HBW := Lib.hid hb
    clear hb
    by_cases hlt : (kk : Int) < (a.took.length : Int)
    · obtain ⟨t, ht⟩ : ∃ t, a.took[kk]? = some t := ⟨_, List.getElem?_eq_getElem (by omega)⟩
      obtain ⟨ad, rfl, c0, c1, c2, c3, c4⟩ := TRead.at_ (Kd.C_below HT.out HBW.out) ht
      have HTK := Lib.hid ht
      have HLK : Hid ((a.took.take kk).length = kk) := Lib.hid (by rw [List.length_take]; omega)
      clear ht
      go_wp2_with (first
        | ((with_reducible refine gate_dst (N := 5) rfl ?_); refine box_event ?hg (N := 5) ?hd (cs := #[.int .i64 0, .int .i64 0, .string ⟨#[]⟩, .string ⟨#[]⟩, .string ⟨#[]⟩]) (t := 68) ?hr ?_; (case hd => rfl); (case hg => rfl); (case hr => first | (go_simp; done) | (go_simp; rfl)); intro g5 hg5 wa hxa hba; have HG5 := Lib.hid hg5; have HXa := Lib.hid hxa; have HBa := Lib.hid hba; clear hg5 hxa hba c0 c1 c2 c3 c4)
        | (refine store_event rfl 68 (.tmp 5) (.tmp 17) rfl g5 #[.int .i64 t.id, .int .i64 t.count, .string t.receipt, .string t.body, .string t.group] rfl rfl 68 #[.int .i64 0, .int .i64 0, .string ⟨#[]⟩, .string ⟨#[]⟩, .string ⟨#[]⟩] HXa.out (by kernel_rfl) rfl (by simp [Value.oneCell']) ?_; intro wb hxb hsb; have HWb := Lib.hid (HBa.out.trans (hsb.2 wr.heap.size (by have := HG5.out; omega))); have HBb := Lib.hid (HBW.out.trans (HWb.out.mono HBW.out.size)); have HXb := Lib.hid ((HWb.out.block g3 (blk_lt HX.out)).trans HX.out); have HYb := Lib.hid ((HWb.out.block g2 (blk_lt HY.out)).trans HY.out); have HOb : Hid (wb.ownsRow w.heap.size 113 5 v kk (tkC (a.took.take kk))) := Lib.hid (by (have hq := HO.out.below HWb.out; rw [TOwn, HLK.out] at hq; exact hq)); have z := (blk_cell hxb 0).trans rfl; have b0 : wb.cell? ⟨g5, 0, none⟩ = some (.int .i64 t.id) := (blk_cell hxb 0).trans rfl; have b1 : wb.cell? ⟨g5, 1, none⟩ = some (.int .i64 t.count) := (blk_cell hxb 1).trans rfl; have b2 : wb.cell? ⟨g5, 2, none⟩ = some (.string t.receipt) := (blk_cell hxb 2).trans rfl; have b3 : wb.cell? ⟨g5, 3, none⟩ = some (.string t.body) := (blk_cell hxb 3).trans rfl; have b4 : wb.cell? ⟨g5, 4, none⟩ = some (.string t.group) := (blk_cell hxb 4).trans rfl; have zv : wb.cell? ⟨g3, 2, none⟩ = some v := (blk_cell HXb.out 2).trans rfl; clear z hxb hsb)
        | (at_builtin; refine print_append_cells (w0 := w) w.heap.size rfl (.tmp 19) (.tmp 31) 59 113 (.agg #[.int .i64 0, .int .i64 0, .string ⟨#[]⟩, .string ⟨#[]⟩, .string ⟨#[]⟩]) 5 64 rfl Tryd.underlying59 info_rtk rfl (by omega) (by omega) v kk (tkC (a.took.take kk)) t.cells rfl rfl rfl (by simp [Tk.cells, Value.oneCell']) HOb.out HBb.out HBb.out.size (by omega) ?_; intro v1 w9 hown hb9 hg9 hat9; obtain ⟨Aw, cw, rfl⟩ := own_slice hown; have HO9 := Lib.hid hown; have HB9 := Lib.hid hb9; have HX9 := Lib.hid (blk_grown HXb.out hg9 (own_ne HOb.out HXb.out (by decide))); have HY9 := Lib.hid (blk_grown HYb.out hg9 (own_ne HOb.out HYb.out (by decide))); have zc9 : w9.cell? ⟨g3, 2, none⟩ = some v := (blk_cell HX9.out 2).trans rfl; have fc9 := blk_frozen HX9.out 2; clear hown hb9 hg9 hat9))
      go_roundw
      case rel =>
        have e1 : a.took.take (kk + 1) = a.took.take kk ++ [t] := by rw [List.take_add_one, HTK.out]; rfl
        refine ⟨kk + 1, _, by omega, by go_num, Lib.hid (blk_set HX9.out 2 _), Lib.hid (blk_far HY9.out (p := ⟨g3, 2, none⟩) hne _), Lib.hid ?_, HB9.out.setCell (p := ⟨g3, 2, none⟩) hle3 _⟩
        have h9 := own_setCell HO9.out (p := ⟨g3, 2, none⟩) (own_ne HO9.out HX9.out (by decide)) (.slice Aw (kk + 1) cw)
        rw [TOwn, e1, tkC_last, List.length_append, HLK.out]
        exact h9
      case measure => simp [intOf]; omega
    · obtain rfl : kk = a.took.length := by omega
      have hvv := HO.out
      rw [List.take_length] at hvv
      obtain ⟨Av, cv, rfl, _, _⟩ := TOwn.form hvv
      have HOV := Lib.hid hvv
      clear hvv
      go_wp2_with (first
        | ((with_reducible refine gate_dst (N := 35) rfl ?_); refine wpList_load_row rfl 61 (.tmp 3) rfl g3 rfl 61 #[.int .i64 a.code, .slice A1 a.ids.length k1, .slice Av a.took.length cv] (0, 0) _ HX.out Tryd.underlying61 rfl (by kernel_rfl) ?_)
        | (refine store_event rfl 61 (.tmp 2) (.tmp 35) rfl g2 #[.int .i64 a.code, .slice A1 a.ids.length k1, .slice Av a.took.length cv] rfl rfl 61 #[.int .i64 0, .slice none 0 0, .slice none 0 0] HY.out (by kernel_rfl) rfl (by simp [Value.oneCell']) ?_; intro wb hxb hsb; have HXR := Lib.hid hxb; have HSR := Lib.hid hsb; clear hxb hsb))
      exact bodyPost_ret (v := .agg #[.int .i64 a.code, .slice A1 a.ids.length k1, .slice Av a.took.length cv]) (results_cell_row (p := 2) (ty := 61) (by kernel_rfl) _ _ g2 61 #[.int .i64 a.code, .slice A1 a.ids.length k1, .slice Av a.took.length cv] (0, 0) _ rfl HXR.out Tryd.underlying61 rfl (by kernel_rfl)) rfl ⟨_, rfl, HSR.out.own HOV.out HY.out (by decide), HBW.out.trans (HSR.out.2 _ hle2)⟩
end Go.Proofs.YtlgippliihgcjaaDoor.C

namespace Go.Proofs.YtlgippliihgcjaaDoor.C
open Go.RowKit Go.Proofs.YtlgippliihgcjaaDoorW.PrintWords Go.Proofs.YtlgippliihgcjaaDoorW.PrintLast

theorem eq_rtk (d : Nat) (w : World) (x0 y0 : Int) (x1 y1 : Int) (x2 y2 : ByteArray) (x3 y3 : ByteArray) (x4 y4 : ByteArray) :
    (Op.equalIn (d + 2) 113 (.agg #[.int .i64 x0, .int .i64 x1, .string x2, .string x3, .string x4]) (.agg #[.int .i64 y0, .int .i64 y1, .string y2, .string y3, .string y4])).run Tryd.prog w = .ok (x0 == y0 && (x1 == y1 && (x2.toList == y2.toList && (x3.toList == y3.toList && x4.toList == y4.toList)))) w := by
  refine eqA_of Tryd.underlying113 (by kernel_rfl) ?_
  refine eqf_cons (by rfl) (by go_simp; rfl) (by go_simp; rfl) (by go_simp) ?_
  refine eqf_cons (by rfl) (by go_simp; rfl) (by go_simp; rfl) (by go_simp) ?_
  refine eqf_cons (by rfl) (by go_simp; rfl) (by go_simp; rfl) (by go_simp) ?_
  refine eqf_cons (by rfl) (by go_simp; rfl) (by go_simp; rfl) (by go_simp) ?_
  exact eqf_last (by rfl) (by go_simp; rfl) (by go_simp; rfl) (by go_simp)
attribute [local go_sem high] eq_rtk

set_option maxHeartbeats 16000000 in
set_option maxRecDepth 100000 in
theorem alike_same (a : An) (A1 A2 B1 B2 : Option Addr) (k1 k2 m1 m2 : Nat) (w : World) (hA1 : IRead w A1 a.ids) (hA2 : TRead w A2 a.took) (hB1 : IRead w B1 a.ids) (hB2 : TRead w B2 a.took) (hl1 : a.ids.length ≤ 1000) (hl2 : a.took.length ≤ 1000) :
    Calls Tryd.prog 23 #[.agg #[.int .i64 a.code, .slice A1 a.ids.length k1, .slice A2 a.took.length k2], .agg #[.int .i64 a.code, .slice B1 a.ids.length m1, .slice B2 a.took.length m2]] w fun e w' => e = .returned (.bool true) ∧ Below w.heap.size w w' := by
  have HA1 := Lib.hid hA1
  have HA2 := Lib.hid hA2
  have HB1 := Lib.hid hB1
  have HB2 := Lib.hid hB2
  have hc0 : (a.code != a.code) = false := by simp
  clear hA1 hA2 hB1 hB2
  go_enter Tryd.func23, Tryd.ntmps23
  go_wp2_with fail
  have hx := (below_alloc (Below.refl (w.alloc (.cells #[.int .i64 a.code, .slice A1 a.ids.length k1, .slice A2 a.took.length k2] 61)).heap.size (w.alloc (.cells #[.int .i64 a.code, .slice A1 a.ids.length k1, .slice A2 a.took.length k2] 61))) (.cells #[.int .i64 a.code, .slice B1 a.ids.length m1, .slice B2 a.took.length m2] 61)).block w.heap.size (by simp)
  have HX := Lib.hid (hx.trans (heap_alloc_new w (.cells #[.int .i64 a.code, .slice A1 a.ids.length k1, .slice A2 a.took.length k2] 61)))
  have HY : Hid (((w.alloc (.cells #[.int .i64 a.code, .slice A1 a.ids.length k1, .slice A2 a.took.length k2] 61)).alloc (.cells #[.int .i64 a.code, .slice B1 a.ids.length m1, .slice B2 a.took.length m2] 61)).heap[w.heap.size + 1]? = some (.cells #[.int .i64 a.code, .slice B1 a.ids.length m1, .slice B2 a.took.length m2] 61 (0, 0))) := Lib.hid (heap_alloc2_new w _ _)
  have HB := Lib.hid (below_alloc (below_alloc (Below.refl w.heap.size w) (.cells #[.int .i64 a.code, .slice A1 a.ids.length k1, .slice A2 a.took.length k2] 61)) (.cells #[.int .i64 a.code, .slice B1 a.ids.length m1, .slice B2 a.took.length m2] 61))
  clear hx
  generalize (w.alloc (.cells #[.int .i64 a.code, .slice A1 a.ids.length k1, .slice A2 a.took.length k2] 61)).alloc (.cells #[.int .i64 a.code, .slice B1 a.ids.length m1, .slice B2 a.took.length m2] 61) = w1 at HX HY HB ⊢
  generalize hg3 : w.heap.size + 1 = g3 at HY ⊢
  generalize hg2 : w.heap.size = g2 at HX ⊢
  have HG2 := Lib.hid hg2
  clear hg2 hg3
  go_loopw [33] (fun i wr => ∃ kk : Nat, kk ≤ a.ids.length ∧ i = .int .i64 kk ∧ Below w1.heap.size w1 wr) (fun i _ => a.ids.length - (intOf i).toNat)
  case atStart => exact ⟨0, by omega, rfl, Below.refl _ _⟩
  case round =>
    obtain ⟨kk, hk, rfl, hb⟩ := hrel
    have HXr := Lib.hid ((hb.block g2 (blk_lt HX.out)).trans HX.out)
    have HYr := Lib.hid ((hb.block g3 (blk_lt HY.out)).trans HY.out)
    have HBr := Lib.hid (HB.out.trans (hb.mono HB.out.size))
    by_cases hlt : (kk : Int) < (a.ids.length : Int)
    · obtain ⟨x, hx⟩ : ∃ x, a.ids[kk]? = some x := ⟨_, List.getElem?_eq_getElem (by omega)⟩
      obtain ⟨ad, rfl, hcell⟩ := iread_at HA1.out HBr.out hx
      obtain ⟨ad2, rfl, hcell2⟩ := iread_at HB1.out HBr.out hx
      have z1 : wr.cell? ⟨g2, 1, none⟩ = some (.slice (some ad) a.ids.length k1) := (blk_cell HXr.out 1).trans rfl
      have z2 : wr.cell? ⟨g3, 1, none⟩ = some (.slice (some ad2) a.ids.length m1) := (blk_cell HYr.out 1).trans rfl
      have hxx : (x != x) = false := by simp
      clear hx
      go_wp2_with fail
      go_quiet (fail)
      go_wp2_with fail
      go_roundw
      case rel => exact ⟨kk + 1, by omega, by go_num, pw_below_drewN hb _⟩
      case measure => simp [intOf]; omega
    · obtain rfl : kk = a.ids.length := by omega
      have z3 : wr.cell? ⟨g2, 2, none⟩ = some (.slice A2 a.took.length k2) := (blk_cell HXr.out 2).trans rfl
      clear HX HY HB hb
      go_wp2_with fail
      obtain ⟨wo, hwo⟩ : ∃ wo : World, wo = wr := ⟨_, rfl⟩
      subst hwo
      go_loopw [51] (fun i wr2 => ∃ kk : Nat, kk ≤ a.took.length ∧ i = .int .i64 kk ∧ Below wo.heap.size wo wr2) (fun i _ => a.took.length - (intOf i).toNat)
      case atStart => exact ⟨0, by omega, rfl, Below.refl _ _⟩
      case round =>
        obtain ⟨kk, hk, rfl, hb⟩ := hrel
        have HXs := Lib.hid ((hb.block g2 (blk_lt HXr.out)).trans HXr.out)
        have HYs := Lib.hid ((hb.block g3 (blk_lt HYr.out)).trans HYr.out)
        have HBs := Lib.hid (HBr.out.trans (hb.mono HBr.out.size))
        clear z3
        by_cases hlt : (kk : Int) < (a.took.length : Int)
        · obtain ⟨t, ht⟩ : ∃ t, a.took[kk]? = some t := ⟨_, List.getElem?_eq_getElem (by omega)⟩
          obtain ⟨ad, rfl, c0, c1, c2, c3, c4⟩ := TRead.at_ (Kd.C_below HA2.out HBs.out) ht
          obtain ⟨ad2, rfl, d0, d1, d2, d3, d4⟩ := TRead.at_ (Kd.C_below HB2.out HBs.out) ht
          have z1 : wr.cell? ⟨g2, 2, none⟩ = some (.slice (some ad) a.took.length k2) := (blk_cell HXs.out 2).trans rfl
          have z2 : wr.cell? ⟨g3, 2, none⟩ = some (.slice (some ad2) a.took.length m2) := (blk_cell HYs.out 2).trans rfl
          clear ht
          go_wp2_with fail
          go_quiet (fail)
          go_wp2_with fail
          go_roundw
          case rel => exact ⟨kk + 1, by omega, by go_num, pw_below_drewN hb _⟩
          case measure => simp [intOf]; omega
        · obtain rfl : kk = a.took.length := by omega
          go_wp2_with fail
          go_ret
          exact ⟨rfl, HBs.out⟩
end Go.Proofs.YtlgippliihgcjaaDoor.C

namespace Go.Proofs.YtlgippliihgcjaaDoor.C
open Go.RowKit Go.Proofs.YtlgippliihgcjaaDoorW.PrintWords Go.Proofs.YtlgippliihgcjaaDoorW.PrintMore
attribute [local go_sem] min2_int min_two

theorem setsOne_cell (W : World) (g o : Nat) (v : Value) : SetsOne W (W.setCell ⟨g, o, none⟩ v) g :=
  ⟨fun k hk => Below.heap_setCell W ⟨g, o, none⟩ v k hk, fun _ hB => (Below.refl _ _ : Below _ W W).setCell (p := ⟨g, o, none⟩) hB v⟩
section
variable {P : Program} {ops : Array Oper} {rest : List Oper} {o : Oper} {a : Act} {Q : Exit → Act → World → Prop}
/-- One cell is stored. -/
theorem cell_event {W : World} (hgd : o.guard = none) (g off : Nat) (v : Value) (cs : Array Value) (t : TypeId) (hg : W.heap[g]? = some (.cells cs t (0, 0)))
    (hrun : (execOp a.eval o).run P W = .ok .skip (W.setCell ⟨g, off, none⟩ v))
    (h : ∀ w1, w1.heap[g]? = some (.cells (cs.setIfInBounds off v) t (0, 0)) → SetsOne W w1 g → wpList P ops Q rest (a.put o.dst undef) w1) : wpList P ops Q (o :: rest) a W := by
  refine wpList_plain hgd fun K hK => ?_
  unfold Oper.wp
  rw [hrun]
  exact hK _ _ (h _ (blk_set hg off v) (setsOne_cell W g off v))
end
/-- A reader whose blocks are as they were. -/
theorem RdS.keep {w w1 : World} {base gr : Nat} {bs : List Int} {s : RS} (h : RdS w base gr bs s) (hk : ∀ (k : Nat) (cs : Array Value) (t : TypeId), w.heap[k]? = some (Obj.cells cs t (0, 0)) → (t = 144 ∨ t = 5 ∨ t = 123) → w1.heap[k]? = w.heap[k]?) : RdS w1 base gr bs s := by
  obtain ⟨a_, x1, ev, bv, x2, x3, x4⟩ := h
  refine ⟨a_, x1, ev, bv, (hk _ _ _ x2 (.inl rfl)).trans x2, own_move x3 (fun k hkk => ?_), ?_⟩
  · obtain ⟨cells, hc⟩ := own_typed x3 k hkk
    exact hk _ _ _ hc (.inr (.inl rfl))
  · rcases x4 with x4 | ⟨x5, b, e, x6, x7⟩
    · exact .inl x4
    · exact .inr ⟨x5, b, e, x6, (hk _ _ _ x7 (.inr (.inr rfl))).trans x7⟩

/-- While an answer is read: the reader gr, the answer ga, the result's variable the first new block. -/
structure RA (w wr : World) (gr ga : Nat) (bs : List Int) (s : RS) (code : Int) (iv tv : Value) (ids : List Int) (tk : List Tk) : Prop where
  rd : RdS wr w.heap.size gr bs s
  res : wr.heap[w.heap.size]? = some (.cells #[.int .i64 0, .slice none 0 0, .slice none 0 0] 56 (0, 0))
  at_ : wr.heap[ga]? = some (.cells #[.int .i64 code, iv, tv] 56 (0, 0))
  below : Below w.heap.size w wr
  ids : IOwn wr w.heap.size iv ids
  tk : TOwn 68 wr w.heap.size tv tk
  base : w.heap.size ≤ ga
  ne : w.heap.size ≠ ga
section
variable {w wr w' : World} {gr ga : Nat} {bs : List Int} {s s' : RS} {code : Int} {iv tv : Value} {ids : List Int} {tk : List Tk}
theorem RdS.row (h : RdS wr w.heap.size gr bs s) : ∃ cs, wr.heap[gr]? = some (.cells cs 144 (0, 0)) := by
  obtain ⟨a_, h1⟩ := h
  exact h1.block
theorem RA.later (h : RA w wr gr ga bs s code iv tv ids tk) (hb : Below wr.heap.size wr w') : RA w w' gr ga bs s code iv tv ids tk :=
  ⟨h.rd.below hb, (hb.block _ (blk_lt h.res)).trans h.res, (hb.block _ (blk_lt h.at_)).trans h.at_, h.below.trans (hb.mono h.below.size), h.ids.below hb, h.tk.below hb, h.base, h.ne⟩
theorem blk_read {gk : Nat} {cs : Array Value} {t : TypeId} {base : Nat} (h : wr.heap[gk]? = some (.cells cs t (0, 0))) (hr : RdS wr base gr bs s) (ht : t ≠ 144) (hg : wr.grownBy w' (some gr)) : w'.heap[gk]? = some (.cells cs t (0, 0)) := by
  obtain ⟨a_, h1⟩ := hr
  obtain ⟨c2, hc⟩ := h1.block
  exact blk_grown h hg (fun e => by injection e with e; exact blk_ne h hc ht e)
theorem own_read {base b2 : Nat} {e : TypeId} {size n : Nat} {v : Value} {xs : List Value} (h : wr.ownsRow b2 e size v n xs) (hr : RdS wr base gr bs s) (ht : e ≠ 144) (hg : wr.grownBy w' (some gr)) : w'.ownsRow b2 e size v n xs := by
  obtain ⟨a_, h1⟩ := hr
  obtain ⟨c2, hc⟩ := h1.block
  exact own_other h hg (.inr (fun e => own_ne h hc ht e.symm))
theorem RA.read (h : RA w wr gr ga bs s code iv tv ids tk) (hr : RdS w' w.heap.size gr bs s') (hg : wr.grownBy w' (some gr)) : RA w w' gr ga bs s' code iv tv ids tk :=
  ⟨hr, blk_read h.res h.rd (by decide) hg, blk_read h.at_ h.rd (by decide) hg, by obtain ⟨a_, h1⟩ := h.rd; exact below_grown h.below h.below.size hg h1.1, own_read h.ids h.rd (by decide) hg, own_read h.tk h.rd (by decide) hg, h.base, h.ne⟩
/-- A store into a message's variable. -/
theorem RA.setTk {g6 : Nat} {cs : Array Value} (h : RA w wr gr ga bs s code iv tv ids tk) (hx : wr.heap[g6]? = some (.cells cs 68 (0, 0))) (hne : tv.ownBlock ≠ some g6) (hb6 : w.heap.size ≤ g6) (hs : SetsOne wr w' g6) : RA w w' gr ga bs s code iv tv ids tk :=
  ⟨h.rd.keep (fun k cs t hk ht => hs.1 k (blk_ne hk hx (by rcases ht with rfl | rfl | rfl <;> decide))), hs.far h.res (blk_ne h.res hx (by decide)), hs.far h.at_ (blk_ne h.at_ hx (by decide)), h.below.trans (hs.2 _ hb6), hs.own h.ids hx (by decide), own_move h.tk (fun k hk => hs.1 k (fun e => hne (by rw [hk, e]))), h.base, h.ne⟩
/-- A message is appended, and the row stored. -/
theorem RA.app {v1 : Value} {tk' : List Tk} (h : RA w wr gr ga bs s code iv tv ids tk) (hg : wr.grownBy w' tv.ownBlock) (hb : Below w.heap.size w w') (ho : TOwn 68 w' w.heap.size v1 tk') : RA w (w'.setCell ⟨ga, 2, none⟩ v1) gr ga bs s code iv v1 ids tk' := by
  have a1 := blk_grown h.at_ hg (own_ne h.tk h.at_ (by decide))
  have a2 := blk_grown h.res hg (own_ne h.tk h.res (by decide))
  have i1 : IOwn w' w.heap.size iv ids := own_other h.ids hg (own_type_ne h.ids h.tk (by decide))
  have r1 : RdS w' w.heap.size gr bs s := h.rd.keep (fun k cs t hk ht => hg.block k (blk_lt hk) (own_ne h.tk hk (by rcases ht with rfl | rfl | rfl <;> decide)))
  have hs := setsOne_cell w' ga 2 v1
  exact ⟨r1.keep (fun k cs t hk ht => hs.1 k (blk_ne hk a1 (by rcases ht with rfl | rfl | rfl <;> decide))), hs.far a2 h.ne, blk_set a1 2 v1, hb.setCell (p := ⟨ga, 2, none⟩) h.base v1, hs.own i1 a1 (by decide), own_setCell ho (p := ⟨ga, 2, none⟩) (own_ne ho a1 (by decide)) v1, h.base, h.ne⟩
theorem own_old {e : TypeId} {size n g : Nat} {v : Value} {xs : List Value} {b2 : Nat} (h : wr.ownsRow b2 e size v n xs) (hg : wr.heap.size ≤ g) : v.ownBlock ≠ some g := fun hk => by
  obtain ⟨cells, hc⟩ := own_typed h g hk
  have := blk_lt hc
  omega
end
theorem stNs_len {bs : List Int} {m : Nat} {s : RS} : (stNs bs m s).2.length ≤ 9223372036854775807 := by
  unfold stNs
  repeat' split
  all_goals first | simp | skip
  have hlen : ∀ (k p : Nat), (rNs bs k p).2.1.length ≤ k := by
    intro k
    induction k with
    | zero => intro p; simp [rNs]
    | succ k ih => intro p; rw [rNs]; split <;> simp [ih]
  have h1 := hlen (readN bs s.p).2.1 (readN bs s.p).2.2
  have h2 := readN_bound bs s.p
  omega
theorem info_tk : (Tryd.prog.info? 68).map (fun i => (i.zero, i.size, i.bytes)) = some (some (.agg #[.int .i64 0, .int .i64 0, .string ⟨#[]⟩, .string ⟨#[]⟩, .string ⟨#[]⟩]), 5, 64) := by kernel_rfl
theorem an_info (c : Int) (x y : Value) : (Tryd.prog.info? 56).map (·.size) = some (#[Value.int .i64 c, x, y] : Array Value).size := by
  show _ = some 3
  kernel_rfl
theorem an_one (c : Int) (A B : Option Addr) (n k m j : Nat) : (#[Value.int .i64 c, .slice A n k, .slice B m j] : Array Value).all (·.oneCell') = true := by simp [Value.oneCell']

theorem ret_an {tmps : Array Value} {w : World} {g : Nat} {c : Int} {x y : Value} (hp : tmps.getD 2 undef = .pointer (some ⟨g, 0, none⟩)) (hg : w.heap[g]? = some (.cells #[.int .i64 c, x, y] 56 (0, 0))) :
    (results Tryd.f21 tmps).run Tryd.prog w = .ok (.tuple #[.agg #[.int .i64 c, x, y], tmps.getD 3 undef]) w := by
  rw [results_cell_tmp (p := 2) (u := 3) (ty := 56) (by kernel_rfl), hp]
  simp only [asAddr, Sem.run_pure, Result.andThen_ok]
  rw [run_loadVar_row w g 56 56 #[.int .i64 c, x, y] (0, 0) _ hg Tryd.underlying56 rfl (an_info _ _ _)]
  rfl
theorem ErrV.setOne {w w1 : World} {base g : Nat} {v : Value} {p q : Int} {cs : Array Value} (h : ErrV w base v p q) (hs : SetsOne w w1 g) (hg : w.heap[g]? = some (.cells cs 56 (0, 0))) : ErrV w1 base v p q := by
  rcases h with h | ⟨h1, b, e, h2, h3⟩
  · exact .inl h
  · exact .inr ⟨h1, b, e, h2, hs.far h3 (blk_ne h3 hg (by decide))⟩
theorem ans_bad {bs : List Int} (h : stD bs (raD bs).1 = 0) (hc : ¬ (rightA (raAn bs) = true ∧ encA (raAn bs) = bs)) : ansCode bs = 2 ∧ ansOf bs = zeroAn := by
  have e : ansCode bs = 2 := by unfold ansCode; rw [if_pos h, if_neg hc]
  exact ⟨e, by unfold ansOf; rw [if_neg (by rw [e]; decide)]⟩
theorem ans_good {bs : List Int} (h : stD bs (raD bs).1 = 0) (hc : rightA (raAn bs) = true ∧ encA (raAn bs) = bs) : ansCode bs = 0 ∧ ansOf bs = raAn bs := by
  have e : ansCode bs = 0 := by unfold ansCode; rw [if_pos h, if_pos hc]
  exact ⟨e, by unfold ansOf; rw [if_pos e]⟩
theorem ans_end {bs : List Int} (h : stD bs (raD bs).1 ≠ 0) : ansCode bs = stD bs (raD bs).1 ∧ ansOf bs = zeroAn := by
  have e : ansCode bs = stD bs (raD bs).1 := by unfold ansCode; rw [if_neg h]
  exact ⟨e, by unfold ansOf; rw [if_neg (by rw [e]; exact h)]⟩
theorem encA_bytes (a : An) : Bytes (encA a) := by
  have h1 : Bytes (tksB a.took) := fun x hx => by
    obtain ⟨t, _, h⟩ := List.mem_flatMap.1 hx
    exact ((((((numB_bytes _).append (numB_bytes _)).append ((numB_bytes _).append (bytesOf_bytes _))).append ((numB_bytes _).append (bytesOf_bytes _))).append ((numB_bytes _).append (bytesOf_bytes _)))) x h
  exact (((numB_bytes _).append ((numB_bytes _).append (fm_bytes _))).append (numB_bytes _)).append h1

set_option maxHeartbeats 16000000 in
set_option maxRecDepth 100000 in
theorem readA_any (A : Option Addr) (c : Nat) (bs : List Int) (w : World) (h : BRead w A bs) (hl : bs.length ≤ 70368744177664) (hby : Bytes bs) :
    Calls Tryd.prog 21 #[.slice A bs.length c] w fun e w' => (∃ iv tv ev a_, e = .returned (.tuple #[.agg #[.int .i64 (ansOf bs).code, iv, tv], ev]) ∧ ErrV w' w.heap.size ev a_ (ansCode bs) ∧ IOwn w' w.heap.size iv (ansOf bs).ids ∧ TOwn 68 w' w.heap.size tv (ansOf bs).took) ∧ Below w.heap.size w w' := by
  have HD := Lib.hid h
  have HY := Lib.hid hby
  clear h hby
  go_enter Tryd.func21, Tryd.ntmps21
  go_wp2_with fail
  have hx1 := heap_alloc_new w (.cells #[.int .i64 0, .slice none 0 0, .slice none 0 0] 56)
  have hb1 := below_alloc (Below.refl w.heap.size w) (.cells #[.int .i64 0, .slice none 0 0, .slice none 0 0] 56)
  generalize w.alloc (.cells #[.int .i64 0, .slice none 0 0, .slice none 0 0] 56) = w1 at hx1 hb1 ⊢
  have HR1 := Lib.hid hx1
  have HB1 := Lib.hid hb1
  clear hx1 hb1
  refine (of_any A c bs w1 (HD.out.below HB1.out) (by omega)).mono ?_
  rintro e w2 ⟨gr, rfl, hrd, hb2⟩
  have HS2 : Hid (RdS w2 w.heap.size gr bs ⟨0, 0⟩) := Lib.hid (by
    obtain ⟨x1, ev, bv, x2, x3, x4⟩ := hrd
    exact ⟨0, Nat.le_trans HB1.out.size x1, ev, bv, x2, x3.lower HB1.out.size, x4.lower HB1.out.size⟩)
  have HR2 := Lib.hid ((hb2.block _ (blk_lt HR1.out)).trans HR1.out)
  have HB2 := Lib.hid (HB1.out.trans (hb2.mono HB1.out.size))
  clear hrd hb2 HR1 HB1
  go_wp2_with fail
  refine (rNum_s w.heap.size gr bs _ w2 HS2.out HB2.out.size HY.out (Nat.zero_le _)).mono ?_
  rintro e w3 ⟨rfl, h3, h4⟩
  have HS3 : Hid (RdS w3 w.heap.size gr bs (raA bs).1) := Lib.hid h3
  have HR3 := Lib.hid (blk_read HR2.out HS2.out (by decide) h4)
  have HB3 : Hid (Below w.heap.size w w3) := Lib.hid (by obtain ⟨a_, h1⟩ := HS2.out; exact below_grown HB2.out HB2.out.size h4 h1.1)
  obtain ⟨cd, hcd⟩ : ∃ cd : Nat, cd = (stN bs ⟨0, 0⟩).2 := ⟨_, rfl⟩
  rw [← hcd]
  have HCD : Hid (cd = (raA bs).2) := Lib.hid hcd
  clear h3 h4 HS2 HR2 HB2 hcd
  go_wp2_with fail
  refine (rNums_s w.heap.size gr bs (raA bs).1 10 w3 HS3.out HB3.out.size HY.out (stN_le (Nat.zero_le _)) (by omega)).mono ?_
  rintro e w4 ⟨⟨v4, rfl, hi4⟩, h3, h4⟩
  have HS4 : Hid (RdS w4 w.heap.size gr bs (raB bs).1) := Lib.hid h3
  have HR4 := Lib.hid (blk_read HR3.out HS3.out (by decide) h4)
  have HB4 : Hid (Below w.heap.size w w4) := Lib.hid (by obtain ⟨a_, h1⟩ := HS3.out; exact below_grown HB3.out HB3.out.size h4 h1.1)
  obtain ⟨Ai, ci, rfl, _, _⟩ := IOwn.form hi4
  obtain ⟨ni, hni⟩ : ∃ ni, ni = (stNs bs 10 (raA bs).1).2.length := ⟨_, rfl⟩
  rw [← hni] at hi4 ⊢
  have HI4 : Hid (IOwn w4 w.heap.size (.slice Ai ni ci) (raB bs).2) := Lib.hid (IOwn.lower hi4 HB3.out.size)
  have HNI : Hid (ni = (raB bs).2.length) := Lib.hid hni
  clear h3 h4 hi4 hni HS3 HR3 HB3
  go_wp2_with (first
    | ((with_reducible refine gate_dst (N := 5) rfl ?_); refine box_event ?hg (N := 5) ?hd (cs := #[.int .i64 0, .slice none 0 0, .slice none 0 0]) (t := 56) ?hr ?_; (case hd => rfl); (case hg => rfl); (case hr => first | (go_simp; done) | (go_simp; rfl)); intro ga hga wa hxa hba; have HGA := Lib.hid hga; have HXa := Lib.hid hxa; have HBa := Lib.hid hba; clear hga hxa hba)
    | (refine store_event rfl 56 (.tmp 5) (.tmp 16) rfl ga #[.int .i64 (cd : Int), .slice Ai ni ci, .slice none 0 0] rfl rfl 56 #[.int .i64 0, .slice none 0 0, .slice none 0 0] HXa.out (an_info _ _ _) rfl (an_one _ _ _ _ _ _ _) ?_; intro wb hxb hsb; have HWb := Lib.hid (HBa.out.trans (hsb.2 w4.heap.size (by have := HGA.out; omega))); have HA5 : Hid (RA w wb gr ga bs (raB bs).1 cd (.slice Ai ni ci) (.slice none 0 0) (raB bs).2 []) := Lib.hid ⟨HS4.out.below HWb.out, (HWb.out.block _ (blk_lt HR4.out)).trans HR4.out, hxb, HB4.out.trans (HWb.out.mono HB4.out.size), HI4.out.below HWb.out, TOwn.nil _ _ _, by (have := HGA.out; have := HB4.out.size; omega), by (have := HGA.out; have := blk_lt HR4.out; omega)⟩; clear hxb hsb))
  clear HS4 HR4 HB4 HI4 HXa HBa HGA HWb
  refine (rNum_s w.heap.size gr bs _ _ HA5.out.rd HA5.out.below.size HY.out (stNs_le (stN_le (Nat.zero_le _)))).mono ?_
  rintro e w6 ⟨rfl, h3, h4⟩
  have HA6 : Hid (RA w w6 gr ga bs (raC bs).1 cd (.slice Ai ni ci) (.slice none 0 0) (raB bs).2 []) := Lib.hid (HA5.out.read h3 h4)
  clear h3 h4 HA5
  obtain ⟨many, hmany⟩ : ∃ many, (stN bs (raB bs).1).2 = many := ⟨_, rfl⟩
  have HM : Hid ((raC bs).2 = many) := Lib.hid hmany
  obtain ⟨lim, hlim⟩ : ∃ lim, min many 10 = lim := ⟨_, rfl⟩
  have hmn : (if (10 : Int) < ((stN bs (raB bs).1).2 : Int) then (10 : Int) else ((stN bs (raB bs).1).2 : Int)) = (lim : Int) := by rw [hmany]; split <;> omega
  have HL : Hid (min (raC bs).2 10 = lim) := Lib.hid (by rw [HM.out, hlim])
  have hlim10 : lim ≤ 10 := by omega
  have HMN := Lib.hid hmn
  clear hmany hlim hmn
  go_wp2_with ((with_reducible refine gate_dst (N := 19) rfl ?_); refine Kd.event_run (w1 := w6) rfl (v := .int .i64 (lim : Int)) ?hr ?_; (case hr => (go_simp; exact HMN.out)))
  go_loopw [20] (fun i wr => ∃ (k : Nat) (tv : Value), k ≤ lim ∧ i = .int .i64 k ∧ Hid (RA w wr gr ga bs (runK bs k (raC bs).1).1 cd (.slice Ai ni ci) tv (raB bs).2 (runK bs k (raC bs).1).2)) (fun i _ => lim - (intOf i).toNat)
  case atStart => exact ⟨0, _, by omega, rfl, HA6⟩
  case round =>
    obtain ⟨k, tv, hk, rfl, HA⟩ := hrel
    have hp0 : (runK bs k (raC bs).1).1.p ≤ bs.length := runK_le k (stN_le (stNs_le (stN_le (Nat.zero_le _))))
    by_cases hlt : k < lim
    · obtain ⟨sk, hsk⟩ : ∃ sk, sk = (runK bs k (raC bs).1).1 := ⟨_, rfl⟩
      rw [← hsk] at HA hp0
      have HSK := Lib.hid hsk
      clear hsk
      go_wp2_with fail
      refine (rNum_s w.heap.size gr bs sk wr HA.out.rd HA.out.below.size HY.out hp0).mono ?_
      rintro e w7 ⟨rfl, h3, h4⟩
      have HA7 := Lib.hid (HA.out.read h3 h4)
      have hp1 : (stN bs sk).1.p ≤ bs.length := stN_le hp0
      clear h3 h4 HA
      go_wp2_with fail
      refine (rNum_s w.heap.size gr bs _ w7 HA7.out.rd HA7.out.below.size HY.out hp1).mono ?_
      rintro e w8 ⟨rfl, h3, h4⟩
      have HA8 := Lib.hid (HA7.out.read h3 h4)
      have hp2 : (stN bs (stN bs sk).1).1.p ≤ bs.length := stN_le hp1
      clear h3 h4 HA7
      go_wp2_with (first
        | ((with_reducible refine gate_dst (N := 6) rfl ?_); refine box_event ?hg (N := 6) ?hd (cs := #[.int .i64 0, .int .i64 0, .string ⟨#[]⟩, .string ⟨#[]⟩, .string ⟨#[]⟩]) (t := 68) ?hr ?_; (case hd => rfl); (case hg => rfl); (case hr => first | (go_simp; done) | (go_simp; rfl)); intro g6 hg6 wa hxa hba; have HG6 := Lib.hid hg6; have HXa := Lib.hid hxa; have HBa := Lib.hid hba; clear hg6 hxa hba)
        | (refine store_event rfl 68 (.tmp 6) (.tmp 26) rfl g6 #[.int .i64 ((stN bs sk).2 : Int), .int .i64 ((stN bs (stN bs sk).1).2 : Int), .string ⟨#[]⟩, .string ⟨#[]⟩, .string ⟨#[]⟩] rfl rfl 68 #[.int .i64 0, .int .i64 0, .string ⟨#[]⟩, .string ⟨#[]⟩, .string ⟨#[]⟩] HXa.out (by show _ = some 5; kernel_rfl) rfl (by simp [Value.oneCell']) ?_; intro wb hxb hsb; have HWb := Lib.hid (HBa.out.trans (hsb.2 w8.heap.size (by have := HG6.out; omega))); have HA9 := Lib.hid (HA8.out.later HWb.out); have HX9 := Lib.hid hxb; clear hxb hsb))
      have hne6 : tv.ownBlock ≠ some g6 := own_old HA8.out.tk (by have := HG6.out; omega)
      have HNE := Lib.hid hne6
      have hb6 : w.heap.size ≤ g6 := by have := HG6.out; have := HA8.out.below.size; omega
      clear hne6 HXa HBa HG6 HWb HA8
      refine (rText_s w.heap.size gr bs _ 256 _ HA9.out.rd HA9.out.below.size HY.out hp2).mono ?_
      rintro e w10 ⟨rfl, h3, h4⟩
      have HA10 := Lib.hid (HA9.out.read h3 h4)
      have HX10 := Lib.hid (blk_read HX9.out HA9.out.rd (by decide) h4)
      have hp3 : (stT bs 256 (stN bs (stN bs sk).1).1).1.p ≤ bs.length := stT_le hp2
      have zc : w10.cell? ⟨g6, 2, none⟩ = some (.string ⟨#[]⟩) := (blk_cell HX10.out 2).trans rfl
      have zf := blk_frozen HX10.out 2
      clear h3 h4 HA9 HX9
      go_wp2_with fail
      have HA11 := Lib.hid (HA10.out.setTk HX10.out HNE.out hb6 (setsOne_cell w10 g6 2 (.string (stT bs 256 (stN bs (stN bs sk).1).1).2)))
      have HX11 := Lib.hid (blk_set HX10.out 2 (.string (stT bs 256 (stN bs (stN bs sk).1).1).2))
      generalize w10.setCell ⟨g6, 2, none⟩ (.string (stT bs 256 (stN bs (stN bs sk).1).1).2) = w11 at HA11 HX11 ⊢
      clear zc zf HA10 HX10
      refine (rText_s w.heap.size gr bs _ 256 _ HA11.out.rd HA11.out.below.size HY.out hp3).mono ?_
      rintro e w12 ⟨rfl, h3, h4⟩
      have HA12 := Lib.hid (HA11.out.read h3 h4)
      have HX12 := Lib.hid (blk_read HX11.out HA11.out.rd (by decide) h4)
      have hp4 : (stT bs 256 (stT bs 256 (stN bs (stN bs sk).1).1).1).1.p ≤ bs.length := stT_le hp3
      have zc : w12.cell? ⟨g6, 3, none⟩ = some (.string ⟨#[]⟩) := (blk_cell HX12.out 3).trans rfl
      have zf := blk_frozen HX12.out 3
      clear h3 h4 HA11 HX11
      go_wp2_with fail
      have HA13 := Lib.hid (HA12.out.setTk HX12.out HNE.out hb6 (setsOne_cell w12 g6 3 (.string (stT bs 256 (stT bs 256 (stN bs (stN bs sk).1).1).1).2)))
      have HX13 := Lib.hid (blk_set HX12.out 3 (.string (stT bs 256 (stT bs 256 (stN bs (stN bs sk).1).1).1).2))
      generalize w12.setCell ⟨g6, 3, none⟩ (.string (stT bs 256 (stT bs 256 (stN bs (stN bs sk).1).1).1).2) = w13 at HA13 HX13 ⊢
      clear zc zf HA12 HX12
      refine (rText_s w.heap.size gr bs _ 256 _ HA13.out.rd HA13.out.below.size HY.out hp4).mono ?_
      rintro e w14 ⟨rfl, h3, h4⟩
      have HA14 := Lib.hid (HA13.out.read h3 h4)
      have HX14 := Lib.hid (blk_read HX13.out HA13.out.rd (by decide) h4)
      clear h3 h4 HA13 HX13
      obtain ⟨t, ht⟩ : ∃ t, t = (stK bs sk).2 := ⟨_, rfl⟩
      have HTT := Lib.hid ht
      have zc : w14.cell? ⟨g6, 4, none⟩ = some (.string ⟨#[]⟩) := (blk_cell HX14.out 4).trans rfl
      have zf := blk_frozen HX14.out 4
      go_wp2_with (first
        | ((with_reducible refine gate_store (t := 9) (p := 35) (v := .tmp 34) rfl ?_); refine cell_event rfl g6 4 (.string (stT bs 256 (stT bs 256 (stT bs 256 (stN bs (stN bs sk).1).1).1).1).2) _ _ HX14.out ?hr ?_; (case hr => first | (go_simp; done) | (go_simp; rfl)); intro w15 hx15 hs15; have HX15 := Lib.hid hx15; have HA15 := Lib.hid (HA14.out.setTk HX14.out HNE.out hb6 hs15); have zt : w15.cell? ⟨ga, 2, none⟩ = some tv := (blk_cell HA15.out.at_ 2).trans rfl; have y0 : w15.cell? ⟨g6, 0, none⟩ = some (.int .i64 ((stN bs sk).2 : Int)) := (blk_cell HX15.out 0).trans rfl; have y1 : w15.cell? ⟨g6, 1, none⟩ = some (.int .i64 ((stN bs (stN bs sk).1).2 : Int)) := (blk_cell HX15.out 1).trans rfl; have y2 : w15.cell? ⟨g6, 2, none⟩ = some (.string (stT bs 256 (stN bs (stN bs sk).1).1).2) := (blk_cell HX15.out 2).trans rfl; have y3 : w15.cell? ⟨g6, 3, none⟩ = some (.string (stT bs 256 (stT bs 256 (stN bs (stN bs sk).1).1).1).2) := (blk_cell HX15.out 3).trans rfl; have y4 : w15.cell? ⟨g6, 4, none⟩ = some (.string (stT bs 256 (stT bs 256 (stT bs 256 (stN bs (stN bs sk).1).1).1).1).2) := (blk_cell HX15.out 4).trans rfl; have HO15 : Hid (w15.ownsRow w.heap.size 68 5 tv k (tkC (runK bs k (raC bs).1).2)) := Lib.hid (by (have hq := HA15.out.tk; rw [TOwn, runK_len] at hq; exact hq)); clear hx15 hs15 zc zf)
        | (at_builtin; refine print_append_cells (w0 := w) w.heap.size rfl (.tmp 37) (.tmp 39) 54 68 (.agg #[.int .i64 0, .int .i64 0, .string ⟨#[]⟩, .string ⟨#[]⟩, .string ⟨#[]⟩]) 5 64 rfl Tryd.underlying54 info_tk rfl (by omega) (by omega) tv k (tkC (runK bs k (raC bs).1).2) (stK bs sk).2.cells rfl rfl rfl (by simp [Tk.cells, Value.oneCell']) HO15.out HA15.out.below HA15.out.below.size (by omega) ?_; intro v1 w16 hown hb9 hg9 hat9; obtain ⟨Aw, cw, rfl⟩ := own_slice hown; have hq : TOwn 68 w16 w.heap.size (.slice Aw (k + 1) cw) (runK bs (k + 1) (raC bs).1).2 := (by rw [TOwn, runK_len]; simp only [runK]; rw [tkC_last, ← HSK.out]; exact hown); have HF := Lib.hid (HA15.out.app hg9 hb9 hq); have a1 := blk_grown HA15.out.at_ hg9 (own_ne HA15.out.tk HA15.out.at_ (by decide)); have zc9 : w16.cell? ⟨ga, 2, none⟩ = some tv := (blk_cell a1 2).trans rfl; have fc9 := blk_frozen a1 2; clear hown hb9 hg9 hat9 hq a1))
      go_roundw
      case rel =>
        have e1 : (runK bs (k + 1) (raC bs).1).1 = (stK bs sk).1 := by rw [HSK.out]; rfl
        exact ⟨k + 1, _, by omega, by go_num, Lib.hid (by rw [e1]; exact HF.out)⟩
      case measure => simp [intOf]; omega
    · obtain rfl : k = lim := by omega
      rw [← HL.out] at HA
      have HA5 : Hid (RA w wr gr ga bs (raD bs).1 cd (.slice Ai ni ci) tv (raB bs).2 (raD bs).2) := HA
      have hpD : (raD bs).1.p ≤ bs.length := runK_le _ (stN_le (stNs_le (stN_le (Nat.zero_le _))))
      clear HA hp0 HA6
      obtain ⟨At, ct, rfl, _, _⟩ := TOwn.form HA5.out.tk
      go_wp2_with fail
      refine (done_s w.heap.size gr bs _ _ HA5.out.rd HA5.out.below.size hpD).mono ?_
      rintro e w12 ⟨⟨v, a_, rfl, hev⟩, hb12⟩
      have HA6 := Lib.hid (HA5.out.later hb12)
      have HE := Lib.hid hev
      clear hb12 HA5
      have hcd := HCD.out
      have hni := HNI.out
      subst hcd hni
      clear HCD HNI
      rcases hev with ⟨hd0, rfl⟩ | ⟨hd0, bq, rfl, _, _⟩
      · have HD0 := Lib.hid hd0
        clear hd0
        have HIR : Hid (IRead w12 Ai (raAn bs).ids) := Lib.hid (by
          obtain ⟨A2, c2, e2, _, h2⟩ := IOwn.form HA6.out.ids
          injection e2 with e2 _ _
          rw [e2]; exact h2)
        have HTR : Hid (TRead w12 At (raAn bs).took) := Lib.hid (by
          obtain ⟨A2, c2, e2, _, h2⟩ := TOwn.form HA6.out.tk
          injection e2 with e2 _ _
          rw [e2]; exact h2)
        go_wp2_with ((with_reducible refine gate_dst (N := 50) rfl ?_); refine wpList_load_row rfl 56 (.tmp 5) rfl ga rfl 56 #[.int .i64 (((raA bs).2 : Nat) : Int), .slice Ai (raB bs).2.length ci, .slice At (raD bs).2.length ct] (0, 0) _ HA6.out.at_ Tryd.underlying56 rfl (an_info _ _ _) ?_)
        cases hq : rightA (raAn bs) with
        | false =>
          obtain ⟨hc2, hcm⟩ := ans_bad HD0.out (by rw [hq]; rintro ⟨h1, _⟩; exact absurd h1 (by decide))
          have HQ := Lib.hid hq
          have HC2 := Lib.hid hc2
          have HCM := Lib.hid hcm
          clear hq hc2 hcm
          refine (writeA_no (raAn bs) Ai At ci ct w12 HIR.out HTR.out HQ.out).mono ?_
          rintro e w13 ⟨v13, rfl, he13, hb13⟩
          have HA13 := Lib.hid (HA6.out.later hb13)
          obtain ⟨b13, rfl, _, _⟩ := he13
          have hrr := HA13.out.rd
          obtain ⟨a1, _, ev1, bv1, hra, _, _⟩ := hrr
          have HRA := Lib.hid hra
          clear hb13 hra
          go_wp2_with fail
          refine (at_any gr _ ev1 bv1 _ HRA.out).mono ?_
          rintro e w14 ⟨rfl, rfl⟩
          go_wp2_with fail
          refine (refused_any 2 _ _).mono ?_
          rintro e w15 ⟨v15, rfl, he15, hb15⟩
          have HA15 := Lib.hid (HA13.out.later hb15)
          have HE15 := Lib.hid (he15.lower HA13.out.below.size)
          clear hb15 he15
          go_wp2_with (refine store_event rfl 56 (.tmp 2) (.tmp 62) rfl w.heap.size #[.int .i64 0, .slice none 0 0, .slice none 0 0] rfl rfl 56 #[.int .i64 0, .slice none 0 0, .slice none 0 0] HA15.out.res (an_info _ _ _) rfl (an_one _ _ _ _ _ _ _) ?_; intro wz hxz hsz; have HXZ := Lib.hid hxz; have HSZ := Lib.hid hsz; clear hxz hsz)
          refine bodyPost_ret (v := .tuple #[.agg #[.int .i64 0, .slice none 0 0, .slice none 0 0], v15]) (ret_an rfl HXZ.out) rfl ⟨⟨.slice none 0 0, .slice none 0 0, _, ((raD bs).1.p : Int), by rw [HCM.out]; rfl, by rw [HC2.out]; exact ErrV.setOne (.inr ⟨by decide, HE15.out⟩) HSZ.out HA15.out.res, by rw [HCM.out]; exact IOwn.nil _ _, by rw [HCM.out]; exact TOwn.nil _ _ _⟩, HA15.out.below.trans (HSZ.out.2 _ (Nat.le_refl _))⟩
        | true =>
          have HQ := Lib.hid hq
          clear hq
          refine (writeA_yes (raAn bs) Ai At ci ct w12 HIR.out HTR.out HQ.out).mono ?_
          rintro e w13 ⟨v13, rfl, ho13, hb13⟩
          have HA13 := Lib.hid (HA6.out.later hb13)
          obtain ⟨A13, c13, rfl, _, hr13⟩ := ho13.form
          have HR13 := Lib.hid hr13
          clear hb13 ho13 hr13
          go_wp2_with fail
          refine (bEq_any A13 A c13 c (encA (raAn bs)) bs w13 HR13.out (HD.out.below HA13.out.below) (encA_bytes _) HY.out).mono ?_
          rintro e w14 ⟨rfl, rfl⟩
          by_cases heq : encA (raAn bs) = bs
          · obtain ⟨hc2, hcm⟩ := ans_good HD0.out ⟨HQ.out, heq⟩
            have HC2 := Lib.hid hc2
            have HCM := Lib.hid hcm
            have hdt := decide_eq_true heq
            clear heq hc2 hcm
            go_wp2_with (first
              | ((with_reducible refine gate_dst (N := 66) rfl ?_); refine wpList_load_row rfl 56 (.tmp 5) rfl ga rfl 56 #[.int .i64 (((raA bs).2 : Nat) : Int), .slice Ai (raB bs).2.length ci, .slice At (raD bs).2.length ct] (0, 0) _ HA13.out.at_ Tryd.underlying56 rfl (an_info _ _ _) ?_)
              | (refine store_event rfl 56 (.tmp 2) (.tmp 66) rfl w.heap.size #[.int .i64 (((raA bs).2 : Nat) : Int), .slice Ai (raB bs).2.length ci, .slice At (raD bs).2.length ct] rfl rfl 56 #[.int .i64 0, .slice none 0 0, .slice none 0 0] HA13.out.res (an_info _ _ _) rfl (an_one _ _ _ _ _ _ _) ?_; intro wz hxz hsz; have HXZ := Lib.hid hxz; have HSZ := Lib.hid hsz; clear hxz hsz))
            refine bodyPost_ret (v := .tuple #[.agg #[.int .i64 (((raA bs).2 : Nat) : Int), .slice Ai (raB bs).2.length ci, .slice At (raD bs).2.length ct], .nilIface]) (ret_an rfl HXZ.out) rfl ⟨⟨.slice Ai (raB bs).2.length ci, .slice At (raD bs).2.length ct, _, 0, by rw [HCM.out]; rfl, .inl ⟨HC2.out, rfl⟩, by rw [HCM.out]; exact HSZ.out.own HA13.out.ids HA13.out.res (by decide), by rw [HCM.out]; exact HSZ.out.own HA13.out.tk HA13.out.res (by decide)⟩, HA13.out.below.trans (HSZ.out.2 _ (Nat.le_refl _))⟩
          · obtain ⟨hc2, hcm⟩ := ans_bad HD0.out (fun h => heq h.2)
            have HC2 := Lib.hid hc2
            have HCM := Lib.hid hcm
            have hdf := decide_eq_false heq
            have hrr := HA13.out.rd
            obtain ⟨a1, _, ev1, bv1, hra, _, _⟩ := hrr
            have HRA := Lib.hid hra
            clear heq hc2 hcm hra
            go_wp2_with fail
            refine (at_any gr _ ev1 bv1 _ HRA.out).mono ?_
            rintro e w14 ⟨rfl, rfl⟩
            go_wp2_with fail
            refine (refused_any 2 _ _).mono ?_
            rintro e w15 ⟨v15, rfl, he15, hb15⟩
            have HA15 := Lib.hid (HA13.out.later hb15)
            have HE15 := Lib.hid (he15.lower HA13.out.below.size)
            clear hb15 he15
            go_wp2_with (refine store_event rfl 56 (.tmp 2) (.tmp 62) rfl w.heap.size #[.int .i64 0, .slice none 0 0, .slice none 0 0] rfl rfl 56 #[.int .i64 0, .slice none 0 0, .slice none 0 0] HA15.out.res (an_info _ _ _) rfl (an_one _ _ _ _ _ _ _) ?_; intro wz hxz hsz; have HXZ := Lib.hid hxz; have HSZ := Lib.hid hsz; clear hxz hsz)
            refine bodyPost_ret (v := .tuple #[.agg #[.int .i64 0, .slice none 0 0, .slice none 0 0], v15]) (ret_an rfl HXZ.out) rfl ⟨⟨.slice none 0 0, .slice none 0 0, _, ((raD bs).1.p : Int), by rw [HCM.out]; rfl, by rw [HC2.out]; exact ErrV.setOne (.inr ⟨by decide, HE15.out⟩) HSZ.out HA15.out.res, by rw [HCM.out]; exact IOwn.nil _ _, by rw [HCM.out]; exact TOwn.nil _ _ _⟩, HA15.out.below.trans (HSZ.out.2 _ (Nat.le_refl _))⟩
      · obtain ⟨hc2, hcm⟩ := ans_end hd0
        have HC2 := Lib.hid hc2
        have HCM := Lib.hid hcm
        clear hd0 hc2 hcm
        go_wp2_with (refine store_event rfl 56 (.tmp 2) (.tmp 47) rfl w.heap.size #[.int .i64 0, .slice none 0 0, .slice none 0 0] rfl rfl 56 #[.int .i64 0, .slice none 0 0, .slice none 0 0] HA6.out.res (an_info _ _ _) rfl (an_one _ _ _ _ _ _ _) ?_; intro wz hxz hsz; have HXZ := Lib.hid hxz; have HSZ := Lib.hid hsz; clear hxz hsz)
        refine bodyPost_ret (v := .tuple #[.agg #[.int .i64 0, .slice none 0 0, .slice none 0 0], .iface 121 (.pointer (some ⟨bq, 0, none⟩))]) (ret_an rfl HXZ.out) rfl ⟨⟨.slice none 0 0, .slice none 0 0, _, a_, by rw [HCM.out]; rfl, by rw [HC2.out]; exact ErrV.setOne (HE.out) HSZ.out HA6.out.res, by rw [HCM.out]; exact IOwn.nil _ _, by rw [HCM.out]; exact TOwn.nil _ _ _⟩, HA6.out.below.trans (HSZ.out.2 _ (Nat.le_refl _))⟩
end Go.Proofs.YtlgippliihgcjaaDoor.C

namespace Go.Proofs.YtlgippliihgcjaaDoor.C
open Go.RowKit Go.Proofs.YtlgippliihgcjaaDoorW.PrintWords Go.Proofs.YtlgippliihgcjaaDoorW.PrintMore

/-- While the document reads an answer: its reader at g, the answer at ga, the result's variable the first new block. -/
structure RT (w wr : World) (g ga : Nat) (A : Option Addr) (n cp : Nat) (s : RS) (code : Int) (iv tv : Value) (ids : List Int) (tk : List Tk) : Prop where
  rd : wr.heap[g]? = some (.cells (rcC A n cp s) 102 (0, 0))
  res : wr.heap[w.heap.size]? = some (.cells #[.int .i64 0, .slice none 0 0, .slice none 0 0] 61 (0, 0))
  at_ : wr.heap[ga]? = some (.cells #[.int .i64 code, iv, tv] 61 (0, 0))
  below : Below w.heap.size w wr
  ids : IOwn wr w.heap.size iv ids
  tk : TOwn 113 wr w.heap.size tv tk
  base1 : w.heap.size ≤ g
  base : w.heap.size ≤ ga
  ne : w.heap.size ≠ ga
section
variable {w wr w' : World} {g ga : Nat} {A : Option Addr} {n cp : Nat} {s s' : RS} {code code' : Int} {iv iv' tv tv' : Value} {ids ids' : List Int} {tk tk' : List Tk}
theorem RT.later (h : RT w wr g ga A n cp s code iv tv ids tk) (hb : Below wr.heap.size wr w') : RT w w' g ga A n cp s code iv tv ids tk :=
  ⟨(hb.block _ (blk_lt h.rd)).trans h.rd, (hb.block _ (blk_lt h.res)).trans h.res, (hb.block _ (blk_lt h.at_)).trans h.at_, h.below.trans (hb.mono h.below.size), h.ids.below hb, h.tk.below hb, h.base1, h.base, h.ne⟩
theorem RT.setRd (h : RT w wr g ga A n cp s code iv tv ids tk) (hx : w'.heap[g]? = some (.cells (rcC A n cp s') 102 (0, 0))) (hs : SetsOne wr w' g) : RT w w' g ga A n cp s' code iv tv ids tk :=
  ⟨hx, hs.far h.res (blk_ne h.res h.rd (by decide)), hs.far h.at_ (blk_ne h.at_ h.rd (by decide)), h.below.trans (hs.2 _ h.base1), hs.own h.ids h.rd (by decide), hs.own h.tk h.rd (by decide), h.base1, h.base, h.ne⟩
theorem RT.setA (h : RT w wr g ga A n cp s code iv tv ids tk) (hx : w'.heap[ga]? = some (.cells #[.int .i64 code', iv', tv] 61 (0, 0))) (hs : SetsOne wr w' ga) (hi : IOwn w' w.heap.size iv' ids') : RT w w' g ga A n cp s code' iv' tv ids' tk :=
  ⟨hs.far h.rd (blk_ne h.rd h.at_ (by decide)), hs.far h.res h.ne, hx, h.below.trans (hs.2 _ h.base), hi, hs.own h.tk h.at_ (by decide), h.base1, h.base, h.ne⟩
theorem RT.setTk {g6 : Nat} {cs : Array Value} (h : RT w wr g ga A n cp s code iv tv ids tk) (hx : wr.heap[g6]? = some (.cells cs 113 (0, 0))) (hne : tv.ownBlock ≠ some g6) (hb6 : w.heap.size ≤ g6) (hs : SetsOne wr w' g6) : RT w w' g ga A n cp s code iv tv ids tk :=
  ⟨hs.far h.rd (blk_ne h.rd hx (by decide)), hs.far h.res (blk_ne h.res hx (by decide)), hs.far h.at_ (blk_ne h.at_ hx (by decide)), h.below.trans (hs.2 _ hb6), hs.own h.ids hx (by decide), own_move h.tk (fun k hk => hs.1 k (fun e => hne (by rw [hk, e]))), h.base1, h.base, h.ne⟩
theorem RT.app (h : RT w wr g ga A n cp s code iv tv ids tk) (hg : wr.grownBy w' tv.ownBlock) (hb : Below w.heap.size w w') (ho : TOwn 113 w' w.heap.size tv' tk') : RT w (w'.setCell ⟨ga, 2, none⟩ tv') g ga A n cp s code iv tv' ids tk' := by
  have a1 := blk_grown h.at_ hg (own_ne h.tk h.at_ (by decide))
  have a2 := blk_grown h.res hg (own_ne h.tk h.res (by decide))
  have a3 := blk_grown h.rd hg (own_ne h.tk h.rd (by decide))
  have i1 : IOwn w' w.heap.size iv ids := own_other h.ids hg (own_type_ne h.ids h.tk (by decide))
  have hs := setsOne_cell w' ga 2 tv'
  exact ⟨hs.far a3 (blk_ne a3 a1 (by decide)), hs.far a2 h.ne, blk_set a1 2 tv', hb.setCell (p := ⟨ga, 2, none⟩) h.base tv', hs.own i1 a1 (by decide), own_setCell ho (p := ⟨ga, 2, none⟩) (own_ne ho a1 (by decide)) tv', h.base1, h.base, h.ne⟩
end
theorem ran_info (c : Int) (x y : Value) : (Tryd.prog.info? 61).map (·.size) = some (#[Value.int .i64 c, x, y] : Array Value).size := by
  show _ = some 3
  kernel_rfl
theorem ret_ran {tmps : Array Value} {w : World} {g : Nat} {c : Int} {x y : Value} (hp : tmps.getD 2 undef = .pointer (some ⟨g, 0, none⟩)) (hg : w.heap[g]? = some (.cells #[.int .i64 c, x, y] 61 (0, 0))) :
    (results Tryd.f22 tmps).run Tryd.prog w = .ok (.tuple #[.agg #[.int .i64 c, x, y], tmps.getD 3 undef]) w := by
  rw [results_cell_tmp (p := 2) (u := 3) (ty := 61) (by kernel_rfl), hp]
  simp only [asAddr, Sem.run_pure, Result.andThen_ok]
  rw [run_loadVar_row w g 61 61 #[.int .i64 c, x, y] (0, 0) _ hg Tryd.underlying61 rfl (ran_info _ _ _)]
  rfl
theorem codeA_bad {bs : List Int} (hby : Bytes bs) (h : stD bs (raD bs).1 = 0) (hc : 10 < (raC bs).2 ∨ rightA (raAn bs) = false) : ansCode bs = 2 ∧ ansOf bs = zeroAn := by
  have e : ansCode bs = 2 := by rw [← codeA_ref hby]; unfold refCodeA; rw [if_pos h, if_pos hc]
  exact ⟨e, by unfold ansOf; rw [if_neg (by rw [e]; decide)]⟩
theorem codeA_good {bs : List Int} (hby : Bytes bs) (h : stD bs (raD bs).1 = 0) (hc : ¬ (10 < (raC bs).2 ∨ rightA (raAn bs) = false)) : ansCode bs = 0 ∧ ansOf bs = raAn bs := by
  have e : ansCode bs = 0 := by rw [← codeA_ref hby]; unfold refCodeA; rw [if_pos h, if_neg hc]
  exact ⟨e, by unfold ansOf; rw [if_pos e]⟩
/-- A message that was loaded. -/
def ldA (x : Value) : Sem Value := Instr.loadAt 61 x
theorem loadAt_ldA (x : Value) : Instr.loadAt 61 x = ldA x := rfl
theorem ldA_of {w : World} {g : Nat} {c : Int} {x y : Value} (h : w.heap[g]? = some (.cells #[.int .i64 c, x, y] 61 (0, 0))) :
    (ldA (.pointer (some ⟨g, 0, none⟩))).run Tryd.prog w = .ok (.agg #[.int .i64 c, x, y]) w := by
  unfold ldA
  simp only [Instr.loadAt, Instr.sureAddr, Sem.run_bind, Sem.run_pure, Result.andThen_ok, run_loadVar_row w g 61 61 _ (0, 0) _ h Tryd.underlying61 rfl (ran_info _ _ _)]
attribute [local go_sem ↓] loadAt_ldA

set_option maxHeartbeats 16000000 in
set_option maxRecDepth 100000 in
theorem treadA_any (A : Option Addr) (cp : Nat) (bs : List Int) (w : World) (h : BRead w A bs) (hl : bs.length ≤ 70368744177664) (hby : Bytes bs) (hcap : bs.length ≤ cp) :
    Calls Tryd.prog 22 #[.slice A bs.length cp] w fun e w' => (∃ iv tv, e = .returned (.tuple #[.agg #[.int .i64 (ansOf bs).code, iv, tv], .int .i64 (ansCode bs)]) ∧ IOwn w' w.heap.size iv (ansOf bs).ids ∧ TOwn 113 w' w.heap.size tv (ansOf bs).took) ∧ Below w.heap.size w w' := by
  have HD := Lib.hid h
  have HY := Lib.hid hby
  clear h hby
  go_enter Tryd.func22, Tryd.ntmps22
  go_wp2_with fail
  have h3 := three_new w (.cells #[.int .i64 0, .slice none 0 0, .slice none 0 0] 61) (.cells #[.int .i64 0, .slice none 0 0, .slice none 0 0] 61) (.cells #[.slice A bs.length cp, .int .i64 0, .int .i64 0] 102)
  have hb3 := below_alloc (below_alloc (below_alloc (Below.refl w.heap.size w) (.cells #[.int .i64 0, .slice none 0 0, .slice none 0 0] 61)) (.cells #[.int .i64 0, .slice none 0 0, .slice none 0 0] 61)) (.cells #[.slice A bs.length cp, .int .i64 0, .int .i64 0] 102)
  generalize ((w.alloc (.cells #[.int .i64 0, .slice none 0 0, .slice none 0 0] 61)).alloc (.cells #[.int .i64 0, .slice none 0 0, .slice none 0 0] 61)).alloc (.cells #[.slice A bs.length cp, .int .i64 0, .int .i64 0] 102) = w1 at h3 hb3 ⊢
  generalize hga : w.heap.size + 1 = ga at h3 ⊢
  generalize hg1 : ga + 1 = g1 at h3 ⊢
  have HA1 : Hid (RT w w1 g1 ga A bs.length cp ⟨0, 0⟩ 0 (.slice none 0 0) (.slice none 0 0) [] []) := Lib.hid ⟨h3.2.2, h3.1, h3.2.1, hb3, IOwn.nil _ _, TOwn.nil _ _ _, by omega, by omega, by omega⟩
  clear h3 hb3 hga hg1
  refine (tnum_any A cp ⟨0, 0⟩ bs _ (HD.out.below HA1.out.below) HY.out (Nat.zero_le _) hl).mono ?_
  rintro e w2 ⟨rfl, hb2⟩
  unfold rdV
  have HA2 := Lib.hid (HA1.out.later hb2)
  obtain ⟨cd, hcd⟩ : ∃ cd : Int, cd = ((stN bs ⟨0, 0⟩).2 : Int) := ⟨_, rfl⟩
  have HCD : Hid (cd = ((raA bs).2 : Int)) := Lib.hid hcd
  rw [← hcd]
  clear hb2 HA1 hcd
  have hpA : (raA bs).1.p ≤ bs.length := stN_le (Nat.zero_le _)
  by_cases hcA : (raA bs).1.code = 0
  · have hce : ((raA bs).1.code == 0) = true := by simpa using hcA
    have HCA := Lib.hid hcA
    clear hcA
    go_wp2_with (first
      | (refine store_event rfl 102 (.tmp 5) (.tmp 17) rfl g1 (rcC A bs.length cp (raA bs).1) rfl rfl 102 (rcC A bs.length cp ⟨0, 0⟩) HA2.out.rd (rcC_info _ _ _ _) rfl (rcC_one _ _ _ _) ?_; intro w3 hxs hss; have HA3 := Lib.hid (HA2.out.setRd hxs hss); have zc := (blk_cell HA3.out.at_ 0); have zc0 : w3.cell? ⟨ga, 0, none⟩ = some (.int .i64 0) := (blk_cell HA3.out.at_ 0).trans rfl; have zf0 := blk_frozen HA3.out.at_ 0; clear zc; clear hxs hss)
      | ((with_reducible refine gate_store (t := 3) (p := 19) (v := .tmp 18) rfl ?_); refine cell_event rfl ga 0 (.int .i64 cd) _ _ HA3.out.at_ ?hr ?_; (case hr => first | (go_simp; done) | (go_simp; rfl)); intro w4 hx4 hs4; have HA4 : Hid (RT w w4 g1 ga A bs.length cp (raA bs).1 cd (.slice none 0 0) (.slice none 0 0) [] []) := Lib.hid (HA3.out.setA hx4 hs4 (IOwn.nil _ _)); have z0 : w4.cell? ⟨g1, 0, none⟩ = some (.slice A bs.length cp) := (blk_cell HA4.out.rd 0).trans rfl; have z1 : w4.cell? ⟨g1, 1, none⟩ = some (.int .i64 (raA bs).1.p) := (blk_cell HA4.out.rd 1).trans rfl; have z2 : w4.cell? ⟨g1, 2, none⟩ = some (.int .i64 (raA bs).1.code) := (blk_cell HA4.out.rd 2).trans rfl; clear hx4 hs4 zc0 zf0))
    have eA : (raA bs).1 = ⟨(raA bs).1.p, 0⟩ := by
      have := HCA.out
      cases hq : (raA bs).1 with
      | mk p c => rw [hq] at this; simp only at this; rw [this]
    have hRN := fun (W : World) (hW : Below w.heap.size w W) => refReadNums_any A cp (raA bs).1.p 10 bs W (HD.out.below hW) HY.out hpA hl (by omega)
    unfold RowTold at hRN
    rw [← eA] at hRN
    have HRN := Lib.hid hRN
    clear hRN eA z0 z1 z2
    refine (HRN.out _ HA4.out.below).mono ?_
    rintro e w5 ⟨v5, rfl, hi5, hb5⟩
    obtain ⟨Ai, ci, rfl, _, _⟩ := IOwn.form hi5
    obtain ⟨ni, hni⟩ : ∃ ni, ni = (stNs bs 10 (raA bs).1).2.length := ⟨_, rfl⟩
    rw [← hni] at hi5 ⊢
    have HNI : Hid (ni = (raB bs).2.length) := Lib.hid hni
    have HI5 : Hid (IOwn w5 w.heap.size (.slice Ai ni ci) (raB bs).2) := Lib.hid (IOwn.lower hi5 HA4.out.below.size)
    have HA5 := Lib.hid (HA4.out.later hb5)
    have zc0 : w5.cell? ⟨ga, 1, none⟩ = some (.slice none 0 0) := (blk_cell HA5.out.at_ 1).trans rfl
    have zf0 := blk_frozen HA5.out.at_ 1
    clear hi5 hb5 hni HA4 HRN
    go_wp2_with (first
      | ((with_reducible refine gate_store (t := 53) (p := 32) (v := .tmp 31) rfl ?_); refine cell_event rfl ga 1 (.slice Ai ni ci) _ _ HA5.out.at_ ?hr ?_; (case hr => first | (go_simp; done) | (go_simp; rfl)); intro w6 hx6 hs6; have HA6 : Hid (RT w w6 g1 ga A bs.length cp (raA bs).1 cd (.slice Ai ni ci) (.slice none 0 0) (raB bs).2 []) := Lib.hid (HA5.out.setA hx6 hs6 (hs6.own HI5.out HA5.out.at_ (by decide))); have zc1 : w6.cell? ⟨g1, 1, none⟩ = some (.int .i64 (raA bs).1.p) := (blk_cell HA6.out.rd 1).trans rfl; have zf1 := blk_frozen HA6.out.rd 1; clear hx6 hs6 zc0 zf0)
      | ((with_reducible refine gate_store (t := 3) (p := 34) (v := .tmp 33) rfl ?_); refine cell_event rfl g1 1 (.int .i64 (raB bs).1.p) _ _ HA6.out.rd ?hr ?_; (case hr => first | (go_simp; done) | (go_simp; rfl)); intro w7 hx7 hs7; have HA7 : Hid (RT w w7 g1 ga A bs.length cp ⟨(raB bs).1.p, (raA bs).1.code⟩ cd (.slice Ai ni ci) (.slice none 0 0) (raB bs).2 []) := Lib.hid (HA6.out.setRd hx7 hs7); have zc2 : w7.cell? ⟨g1, 2, none⟩ = some (.int .i64 (raA bs).1.code) := (blk_cell HA7.out.rd 2).trans rfl; have zf2 := blk_frozen HA7.out.rd 2; clear hx7 hs7 zc1 zf1)
      | ((with_reducible refine gate_store (t := 41) (p := 36) (v := .tmp 35) rfl ?_); refine cell_event rfl g1 2 (.int .i64 (raB bs).1.code) _ _ HA7.out.rd ?hr ?_; (case hr => first | (go_simp; done) | (go_simp; rfl)); intro w8 hx8 hs8; have HA8 : Hid (RT w w8 g1 ga A bs.length cp (raB bs).1 cd (.slice Ai ni ci) (.slice none 0 0) (raB bs).2 []) := Lib.hid (HA7.out.setRd hx8 hs8); have z0 : w8.cell? ⟨g1, 0, none⟩ = some (.slice A bs.length cp) := (blk_cell HA8.out.rd 0).trans rfl; have z1 : w8.cell? ⟨g1, 1, none⟩ = some (.int .i64 (raB bs).1.p) := (blk_cell HA8.out.rd 1).trans rfl; have z2 : w8.cell? ⟨g1, 2, none⟩ = some (.int .i64 (raB bs).1.code) := (blk_cell HA8.out.rd 2).trans rfl; clear hx8 hs8 zc2 zf2))
    clear HA5 HI5 HA6 HA7 z0 z1 z2
    have HA5 := HA8
    clear HA8
    refine (tnum_any A cp (raB bs).1 bs _ (HD.out.below HA5.out.below) HY.out (stNs_le hpA) hl).mono ?_
    rintro e w9 ⟨rfl, hb9⟩
    unfold rdV
    have HA9 := Lib.hid (HA5.out.later hb9)
    clear hb9 HA5
    obtain ⟨many, hmany⟩ : ∃ many, (stN bs (raB bs).1).2 = many := ⟨_, rfl⟩
    have HM : Hid ((raC bs).2 = many) := Lib.hid hmany
    rw [hmany]
    obtain ⟨lim, hlim⟩ : ∃ lim, min many 10 = lim := ⟨_, rfl⟩
    have HL : Hid (min (raC bs).2 10 = lim) := Lib.hid (by rw [HM.out, hlim])
    have hlim10 : lim ≤ 10 := by omega
    have hlimm : lim ≤ many := by omega
    have HLM := Lib.hid hlim
    clear hmany hlim
    go_wp2_with (refine store_event rfl 102 (.tmp 5) (.tmp 40) rfl g1 (rcC A bs.length cp (raC bs).1) rfl rfl 102 (rcC A bs.length cp (raB bs).1) HA9.out.rd (rcC_info _ _ _ _) rfl (rcC_one _ _ _ _) ?_; intro w10 hxs hss; have HA10 := Lib.hid (HA9.out.setRd hxs hss); skip; clear hxs hss)
    go_loopw [10] (fun i wr => ∃ (k : Nat) (tv : Value), k ≤ lim ∧ i = .int .i64 k ∧ Hid (RT w wr g1 ga A bs.length cp (runK bs k (raC bs).1).1 cd (.slice Ai ni ci) tv (raB bs).2 (runK bs k (raC bs).1).2)) (fun i _ => lim - (intOf i).toNat)
    case atStart => exact ⟨0, _, by omega, rfl, HA10⟩
    case round =>
      obtain ⟨k, tv, hk, rfl, HA⟩ := hrel
      have hp0 : (runK bs k (raC bs).1).1.p ≤ bs.length := runK_le k (stN_le (stNs_le hpA))
      by_cases hlt : k < lim
      · have hl1 : (k : Int) < (many : Int) := by omega
        have hl2 : (k : Int) < 10 := by omega
        obtain ⟨sk, hsk⟩ : ∃ sk, sk = (runK bs k (raC bs).1).1 := ⟨_, rfl⟩
        rw [← hsk] at HA hp0
        have HSK := Lib.hid hsk
        clear hsk
        go_wp2_with ((with_reducible refine gate_dst (N := 11) rfl ?_); refine box_event ?hg (N := 11) ?hd (cs := #[.int .i64 0, .int .i64 0, .string ⟨#[]⟩, .string ⟨#[]⟩, .string ⟨#[]⟩]) (t := 113) ?hr ?_; (case hd => rfl); (case hg => rfl); (case hr => first | (go_simp; done) | (go_simp; rfl)); intro g6 hg6 wa hxa hba; have HG6 := Lib.hid hg6; have HXa := Lib.hid hxa; have HAa := Lib.hid (HA.out.later hba); have z0 : wa.cell? ⟨g1, 0, none⟩ = some (.slice A bs.length cp) := (blk_cell HAa.out.rd 0).trans rfl; have z1 : wa.cell? ⟨g1, 1, none⟩ = some (.int .i64 sk.p) := (blk_cell HAa.out.rd 1).trans rfl; have z2 : wa.cell? ⟨g1, 2, none⟩ = some (.int .i64 sk.code) := (blk_cell HAa.out.rd 2).trans rfl; clear hg6 hxa hba)
        have HNE := Lib.hid (own_old HA.out.tk (by have := HG6.out; omega) : tv.ownBlock ≠ some g6)
        have hb6 : w.heap.size ≤ g6 := by have := HG6.out; have := HA.out.below.size; omega
        clear HA HG6
        refine (tnum_any A cp sk bs _ (HD.out.below HAa.out.below) HY.out hp0 hl).mono ?_
        rintro e wc0 ⟨rfl, hb⟩
        unfold rdV
        have HAc0 := Lib.hid (HAa.out.later hb)
        have HXc0 := Lib.hid ((hb.block g6 (blk_lt HXa.out)).trans HXa.out)
        have hp1 : (stN bs sk).1.p ≤ bs.length := stN_le hp0
        clear hb z0 z1 z2 HAa HXa
        go_wp2_with (first
          | (refine store_event rfl 102 (.tmp 5) (.tmp 54) rfl g1 (rcC A bs.length cp (stN bs sk).1) rfl rfl 102 (rcC A bs.length cp sk) HAc0.out.rd (rcC_info _ _ _ _) rfl (rcC_one _ _ _ _) ?_; intro ws0 hxs hss; have HAs0 := Lib.hid (HAc0.out.setRd hxs hss); have HXs0 := Lib.hid (hss.far HXc0.out (blk_ne HXc0.out HAc0.out.rd (by decide))); have zc0 : ws0.cell? ⟨g6, 0, none⟩ = some (.int .i64 0) := (blk_cell HXs0.out 0).trans rfl; have zf0 := blk_frozen HXs0.out 0; clear hxs hss)
          | ((with_reducible refine gate_store (t := 3) (p := 56) (v := .tmp 55) rfl ?_); refine cell_event rfl g6 0 (.int .i64 ((stN bs sk).2 : Int)) _ _ HXs0.out ?hr ?_; (case hr => first | (go_simp; done) | (go_simp; rfl)); intro wf0 hxf hsf; have HXf0 := Lib.hid hxf; have HAf0 := Lib.hid (HAs0.out.setTk HXs0.out HNE.out hb6 hsf); have z0 : wf0.cell? ⟨g1, 0, none⟩ = some (.slice A bs.length cp) := (blk_cell HAf0.out.rd 0).trans rfl; have z1 : wf0.cell? ⟨g1, 1, none⟩ = some (.int .i64 (stN bs sk).1.p) := (blk_cell HAf0.out.rd 1).trans rfl; have z2 : wf0.cell? ⟨g1, 2, none⟩ = some (.int .i64 (stN bs sk).1.code) := (blk_cell HAf0.out.rd 2).trans rfl; clear hxf hsf zc0 zf0))
        refine (tnum_any A cp (stN bs sk).1 bs _ (HD.out.below HAf0.out.below) HY.out hp1 hl).mono ?_
        rintro e wc1 ⟨rfl, hb⟩
        unfold rdV
        have HAc1 := Lib.hid (HAf0.out.later hb)
        have HXc1 := Lib.hid ((hb.block g6 (blk_lt HXf0.out)).trans HXf0.out)
        have hp2 : (stN bs (stN bs sk).1).1.p ≤ bs.length := stN_le hp1
        clear hb z0 z1 z2 HAf0 HXf0
        go_wp2_with (first
          | (refine store_event rfl 102 (.tmp 5) (.tmp 60) rfl g1 (rcC A bs.length cp (stN bs (stN bs sk).1).1) rfl rfl 102 (rcC A bs.length cp (stN bs sk).1) HAc1.out.rd (rcC_info _ _ _ _) rfl (rcC_one _ _ _ _) ?_; intro ws1 hxs hss; have HAs1 := Lib.hid (HAc1.out.setRd hxs hss); have HXs1 := Lib.hid (hss.far HXc1.out (blk_ne HXc1.out HAc1.out.rd (by decide))); have zc0 : ws1.cell? ⟨g6, 1, none⟩ = some (.int .i64 0) := (blk_cell HXs1.out 1).trans rfl; have zf0 := blk_frozen HXs1.out 1; clear hxs hss)
          | ((with_reducible refine gate_store (t := 3) (p := 62) (v := .tmp 61) rfl ?_); refine cell_event rfl g6 1 (.int .i64 ((stN bs (stN bs sk).1).2 : Int)) _ _ HXs1.out ?hr ?_; (case hr => first | (go_simp; done) | (go_simp; rfl)); intro wf1 hxf hsf; have HXf1 := Lib.hid hxf; have HAf1 := Lib.hid (HAs1.out.setTk HXs1.out HNE.out hb6 hsf); have z0 : wf1.cell? ⟨g1, 0, none⟩ = some (.slice A bs.length cp) := (blk_cell HAf1.out.rd 0).trans rfl; have z1 : wf1.cell? ⟨g1, 1, none⟩ = some (.int .i64 (stN bs (stN bs sk).1).1.p) := (blk_cell HAf1.out.rd 1).trans rfl; have z2 : wf1.cell? ⟨g1, 2, none⟩ = some (.int .i64 (stN bs (stN bs sk).1).1.code) := (blk_cell HAf1.out.rd 2).trans rfl; clear hxf hsf zc0 zf0))
        refine (ttext_any A cp (stN bs (stN bs sk).1).1 bs _ (HD.out.below HAf1.out.below) HY.out hp2 hl hcap).mono ?_
        rintro e wc2 ⟨rfl, hb⟩
        unfold rdV
        have HAc2 := Lib.hid (HAf1.out.later hb)
        have HXc2 := Lib.hid ((hb.block g6 (blk_lt HXf1.out)).trans HXf1.out)
        have hp3 : (stT bs 256 (stN bs (stN bs sk).1).1).1.p ≤ bs.length := stT_le hp2
        clear hb z0 z1 z2 HAf1 HXf1
        go_wp2_with (first
          | (refine store_event rfl 102 (.tmp 5) (.tmp 66) rfl g1 (rcC A bs.length cp (stT bs 256 (stN bs (stN bs sk).1).1).1) rfl rfl 102 (rcC A bs.length cp (stN bs (stN bs sk).1).1) HAc2.out.rd (rcC_info _ _ _ _) rfl (rcC_one _ _ _ _) ?_; intro ws2 hxs hss; have HAs2 := Lib.hid (HAc2.out.setRd hxs hss); have HXs2 := Lib.hid (hss.far HXc2.out (blk_ne HXc2.out HAc2.out.rd (by decide))); have zc0 : ws2.cell? ⟨g6, 2, none⟩ = some (.string ⟨#[]⟩) := (blk_cell HXs2.out 2).trans rfl; have zf0 := blk_frozen HXs2.out 2; clear hxs hss)
          | ((with_reducible refine gate_store (t := 9) (p := 68) (v := .tmp 67) rfl ?_); refine cell_event rfl g6 2 (.string (stT bs 256 (stN bs (stN bs sk).1).1).2) _ _ HXs2.out ?hr ?_; (case hr => first | (go_simp; done) | (go_simp; rfl)); intro wf2 hxf hsf; have HXf2 := Lib.hid hxf; have HAf2 := Lib.hid (HAs2.out.setTk HXs2.out HNE.out hb6 hsf); have z0 : wf2.cell? ⟨g1, 0, none⟩ = some (.slice A bs.length cp) := (blk_cell HAf2.out.rd 0).trans rfl; have z1 : wf2.cell? ⟨g1, 1, none⟩ = some (.int .i64 (stT bs 256 (stN bs (stN bs sk).1).1).1.p) := (blk_cell HAf2.out.rd 1).trans rfl; have z2 : wf2.cell? ⟨g1, 2, none⟩ = some (.int .i64 (stT bs 256 (stN bs (stN bs sk).1).1).1.code) := (blk_cell HAf2.out.rd 2).trans rfl; clear hxf hsf zc0 zf0))
        refine (ttext_any A cp (stT bs 256 (stN bs (stN bs sk).1).1).1 bs _ (HD.out.below HAf2.out.below) HY.out hp3 hl hcap).mono ?_
        rintro e wc3 ⟨rfl, hb⟩
        unfold rdV
        have HAc3 := Lib.hid (HAf2.out.later hb)
        have HXc3 := Lib.hid ((hb.block g6 (blk_lt HXf2.out)).trans HXf2.out)
        have hp4 : (stT bs 256 (stT bs 256 (stN bs (stN bs sk).1).1).1).1.p ≤ bs.length := stT_le hp3
        clear hb z0 z1 z2 HAf2 HXf2
        go_wp2_with (first
          | (refine store_event rfl 102 (.tmp 5) (.tmp 72) rfl g1 (rcC A bs.length cp (stT bs 256 (stT bs 256 (stN bs (stN bs sk).1).1).1).1) rfl rfl 102 (rcC A bs.length cp (stT bs 256 (stN bs (stN bs sk).1).1).1) HAc3.out.rd (rcC_info _ _ _ _) rfl (rcC_one _ _ _ _) ?_; intro ws3 hxs hss; have HAs3 := Lib.hid (HAc3.out.setRd hxs hss); have HXs3 := Lib.hid (hss.far HXc3.out (blk_ne HXc3.out HAc3.out.rd (by decide))); have zc0 : ws3.cell? ⟨g6, 3, none⟩ = some (.string ⟨#[]⟩) := (blk_cell HXs3.out 3).trans rfl; have zf0 := blk_frozen HXs3.out 3; clear hxs hss)
          | ((with_reducible refine gate_store (t := 9) (p := 74) (v := .tmp 73) rfl ?_); refine cell_event rfl g6 3 (.string (stT bs 256 (stT bs 256 (stN bs (stN bs sk).1).1).1).2) _ _ HXs3.out ?hr ?_; (case hr => first | (go_simp; done) | (go_simp; rfl)); intro wf3 hxf hsf; have HXf3 := Lib.hid hxf; have HAf3 := Lib.hid (HAs3.out.setTk HXs3.out HNE.out hb6 hsf); have z0 : wf3.cell? ⟨g1, 0, none⟩ = some (.slice A bs.length cp) := (blk_cell HAf3.out.rd 0).trans rfl; have z1 : wf3.cell? ⟨g1, 1, none⟩ = some (.int .i64 (stT bs 256 (stT bs 256 (stN bs (stN bs sk).1).1).1).1.p) := (blk_cell HAf3.out.rd 1).trans rfl; have z2 : wf3.cell? ⟨g1, 2, none⟩ = some (.int .i64 (stT bs 256 (stT bs 256 (stN bs (stN bs sk).1).1).1).1.code) := (blk_cell HAf3.out.rd 2).trans rfl; clear hxf hsf zc0 zf0))
        refine (ttext_any A cp (stT bs 256 (stT bs 256 (stN bs (stN bs sk).1).1).1).1 bs _ (HD.out.below HAf3.out.below) HY.out hp4 hl hcap).mono ?_
        rintro e wc4 ⟨rfl, hb⟩
        unfold rdV
        have HAc4 := Lib.hid (HAf3.out.later hb)
        have HXc4 := Lib.hid ((hb.block g6 (blk_lt HXf3.out)).trans HXf3.out)
        have hp5 : (stT bs 256 (stT bs 256 (stT bs 256 (stN bs (stN bs sk).1).1).1).1).1.p ≤ bs.length := stT_le hp4
        clear hb z0 z1 z2 HAf3 HXf3
        go_wp2_with (first
          | (refine store_event rfl 102 (.tmp 5) (.tmp 78) rfl g1 (rcC A bs.length cp (stT bs 256 (stT bs 256 (stT bs 256 (stN bs (stN bs sk).1).1).1).1).1) rfl rfl 102 (rcC A bs.length cp (stT bs 256 (stT bs 256 (stN bs (stN bs sk).1).1).1).1) HAc4.out.rd (rcC_info _ _ _ _) rfl (rcC_one _ _ _ _) ?_; intro ws4 hxs hss; have HAs4 := Lib.hid (HAc4.out.setRd hxs hss); have HXs4 := Lib.hid (hss.far HXc4.out (blk_ne HXc4.out HAc4.out.rd (by decide))); have zc0 : ws4.cell? ⟨g6, 4, none⟩ = some (.string ⟨#[]⟩) := (blk_cell HXs4.out 4).trans rfl; have zf0 := blk_frozen HXs4.out 4; clear hxs hss)
          | ((with_reducible refine gate_store (t := 9) (p := 80) (v := .tmp 79) rfl ?_); refine cell_event rfl g6 4 (.string (stT bs 256 (stT bs 256 (stT bs 256 (stN bs (stN bs sk).1).1).1).1).2) _ _ HXs4.out ?hr ?_; (case hr => first | (go_simp; done) | (go_simp; rfl)); intro wf4 hxf hsf; have HXf4 := Lib.hid hxf; have HAf4 := Lib.hid (HAs4.out.setTk HXs4.out HNE.out hb6 hsf); have zt : wf4.cell? ⟨ga, 2, none⟩ = some tv := (blk_cell HAf4.out.at_ 2).trans rfl; have y0 : wf4.cell? ⟨g6, 0, none⟩ = some (.int .i64 ((stN bs sk).2 : Int)) := (blk_cell HXf4.out 0).trans rfl; have y1 : wf4.cell? ⟨g6, 1, none⟩ = some (.int .i64 ((stN bs (stN bs sk).1).2 : Int)) := (blk_cell HXf4.out 1).trans rfl; have y2 : wf4.cell? ⟨g6, 2, none⟩ = some (.string (stT bs 256 (stN bs (stN bs sk).1).1).2) := (blk_cell HXf4.out 2).trans rfl; have y3 : wf4.cell? ⟨g6, 3, none⟩ = some (.string (stT bs 256 (stT bs 256 (stN bs (stN bs sk).1).1).1).2) := (blk_cell HXf4.out 3).trans rfl; have y4 : wf4.cell? ⟨g6, 4, none⟩ = some (.string (stT bs 256 (stT bs 256 (stT bs 256 (stN bs (stN bs sk).1).1).1).1).2) := (blk_cell HXf4.out 4).trans rfl; have HO15 : Hid (wf4.ownsRow w.heap.size 113 5 tv k (tkC (runK bs k (raC bs).1).2)) := Lib.hid (by (have hq := HAf4.out.tk; rw [TOwn, runK_len] at hq; exact hq)); clear hxf hsf zc0 zf0)
          | (at_builtin; refine print_append_cells (w0 := w) w.heap.size rfl (.tmp 82) (.tmp 84) 59 113 (.agg #[.int .i64 0, .int .i64 0, .string ⟨#[]⟩, .string ⟨#[]⟩, .string ⟨#[]⟩]) 5 64 rfl Tryd.underlying59 info_rtk rfl (by omega) (by omega) tv k (tkC (runK bs k (raC bs).1).2) (stK bs sk).2.cells rfl rfl rfl (by simp [Tk.cells, Value.oneCell']) HO15.out HAf4.out.below HAf4.out.below.size (by omega) ?_; intro v1 w16 hown hb9 hg9 hat9; obtain ⟨Aw, cw, rfl⟩ := own_slice hown; have hq : TOwn 113 w16 w.heap.size (.slice Aw (k + 1) cw) (runK bs (k + 1) (raC bs).1).2 := (by rw [TOwn, runK_len]; simp only [runK]; rw [tkC_last, ← HSK.out]; exact hown); have HF := Lib.hid (HAf4.out.app hg9 hb9 hq); have a1 := blk_grown HAf4.out.at_ hg9 (own_ne HAf4.out.tk HAf4.out.at_ (by decide)); have zc9 : w16.cell? ⟨ga, 2, none⟩ = some tv := (blk_cell a1 2).trans rfl; have fc9 := blk_frozen a1 2; clear hown hb9 hg9 hat9 hq a1))
        go_roundw
        case rel =>
          have e1 : (runK bs (k + 1) (raC bs).1).1 = (stK bs sk).1 := by rw [HSK.out]; rfl
          exact ⟨k + 1, _, by omega, by go_num, Lib.hid (by rw [e1]; exact HF.out)⟩
        case measure => simp [intOf]; omega
      · obtain rfl : k = lim := by omega
        rw [← HL.out] at HA
        have HA11 : Hid (RT w wr g1 ga A bs.length cp (raD bs).1 cd (.slice Ai ni ci) tv (raB bs).2 (raD bs).2) := HA
        have hpD : (raD bs).1.p ≤ bs.length := runK_le _ (stN_le (stNs_le hpA))
        clear HA hp0 HA10 HA9
        obtain ⟨At, ct, rfl, _, _⟩ := TOwn.form HA11.out.tk
        have z0 : wr.cell? ⟨g1, 0, none⟩ = some (.slice A bs.length cp) := (blk_cell HA11.out.rd 0).trans rfl
        have z1 : wr.cell? ⟨g1, 1, none⟩ = some (.int .i64 (raD bs).1.p) := (blk_cell HA11.out.rd 1).trans rfl
        have z2 : wr.cell? ⟨g1, 2, none⟩ = some (.int .i64 (raD bs).1.code) := (blk_cell HA11.out.rd 2).trans rfl
        have hmm : (many : Int) ≤ k ∨ (10 : Int) ≤ k := by have := HLM.out; omega
        have HMM := Lib.hid hmm
        clear hmm
        by_cases hkm : (k : Int) < (many : Int)
        all_goals
          (try have hk10 : (10 : Int) ≤ (k : Int) := HMM.out.resolve_left (by omega))
          go_wp2_with fail
          refine (tdone_any A cp (raD bs).1 bs _ hl hpD).mono ?_
          rintro e w12 ⟨rfl, hb12⟩
          have HA12 := Lib.hid (HA11.out.later hb12)
          clear hb12 HA11 z0 z1 z2
          by_cases hd0 : stD bs (raD bs).1 = 0
          · have HD0 := Lib.hid hd0
            rw [hd0]
            clear hd0
            by_cases hm10 : (10 : Int) < (many : Int)
            · clear hkm
              obtain ⟨hc2, hcm⟩ := codeA_bad HY.out HD0.out (.inl (by have := HM.out; omega))
              have HC2 := Lib.hid hc2
              have HCM := Lib.hid hcm
              clear hc2 hcm
              go_wp2_with (refine store_event rfl 61 (.tmp 2) (.tmp 100) rfl w.heap.size #[.int .i64 0, .slice none 0 0, .slice none 0 0] rfl rfl 61 #[.int .i64 0, .slice none 0 0, .slice none 0 0] HA12.out.res (ran_info _ _ _) rfl (an_one _ _ _ _ _ _ _) ?_; intro wz hxz hsz; have HXZ := Lib.hid hxz; have HSZ := Lib.hid hsz; clear hxz hsz)
              refine bodyPost_ret (v := .tuple #[.agg #[.int .i64 0, .slice none 0 0, .slice none 0 0], .int .i64 2]) (ret_ran rfl HXZ.out) rfl ⟨⟨.slice none 0 0, .slice none 0 0, by rw [HCM.out, HC2.out]; rfl, by rw [HCM.out]; exact IOwn.nil _ _, by rw [HCM.out]; exact TOwn.nil _ _ _⟩, HA12.out.below.trans (HSZ.out.2 _ (Nat.le_refl _))⟩
            · have l0 := ldA_of HA12.out.at_
              have hI : IRead w12 Ai (raAn bs).ids := by
                obtain ⟨A2, c2, e2, _, h2⟩ := IOwn.form HA12.out.ids
                injection e2 with e2 _ _
                rw [e2]; exact h2
              have hT : TRead w12 At (raAn bs).took := by
                obtain ⟨A2, c2, e2, _, h2⟩ := TOwn.form HA12.out.tk
                injection e2 with e2 _ _
                rw [e2]; exact h2
              have hR := trA_any (raAn bs) Ai At ci ct w12 hI hT
              rw [show (raAn bs).ids.length = ni from HNI.out.symm, show (raAn bs).code = cd from HCD.out.symm] at hR
              have HR := Lib.hid hR
              clear hI hT hR hkm
              go_wp2_with fail
              refine HR.out.mono ?_
              rintro e w13 ⟨rfl, hb13⟩
              have HA13 := Lib.hid (HA12.out.later hb13)
              clear hb13 l0
              cases hrr : rightA (raAn bs) with
              | false =>
                obtain ⟨hc2, hcm⟩ := codeA_bad HY.out HD0.out (.inr hrr)
                have HC2 := Lib.hid hc2
                have HCM := Lib.hid hcm
                clear hc2 hcm
                go_wp2_with (refine store_event rfl 61 (.tmp 2) (.tmp 100) rfl w.heap.size #[.int .i64 0, .slice none 0 0, .slice none 0 0] rfl rfl 61 #[.int .i64 0, .slice none 0 0, .slice none 0 0] HA13.out.res (ran_info _ _ _) rfl (an_one _ _ _ _ _ _ _) ?_; intro wz hxz hsz; have HXZ := Lib.hid hxz; have HSZ := Lib.hid hsz; clear hxz hsz)
                refine bodyPost_ret (v := .tuple #[.agg #[.int .i64 0, .slice none 0 0, .slice none 0 0], .int .i64 2]) (ret_ran rfl HXZ.out) rfl ⟨⟨.slice none 0 0, .slice none 0 0, by rw [HCM.out, HC2.out]; rfl, by rw [HCM.out]; exact IOwn.nil _ _, by rw [HCM.out]; exact TOwn.nil _ _ _⟩, HA13.out.below.trans (HSZ.out.2 _ (Nat.le_refl _))⟩
              | true =>
                obtain ⟨hc2, hcm⟩ := codeA_good HY.out HD0.out (by rintro (h | h) <;> first | (have := HM.out; omega) | (rw [hrr] at h; exact absurd h (by decide)))
                have HC2 := Lib.hid hc2
                have HCM := Lib.hid hcm
                clear hc2 hcm hrr
                have l0 := ldA_of HA13.out.at_
                go_wp2_with (refine store_event rfl 61 (.tmp 2) (.tmp 101) rfl w.heap.size #[.int .i64 cd, (.slice Ai ni ci), .slice At (raD bs).2.length ct] rfl rfl 61 #[.int .i64 0, .slice none 0 0, .slice none 0 0] HA13.out.res (ran_info _ _ _) rfl (an_one _ _ _ _ _ _ _) ?_; intro wz hxz hsz; have HXZ := Lib.hid hxz; have HSZ := Lib.hid hsz; clear hxz hsz)
                refine bodyPost_ret (v := .tuple #[.agg #[.int .i64 cd, (.slice Ai ni ci), .slice At (raD bs).2.length ct], .int .i64 0]) (ret_ran rfl HXZ.out) rfl ⟨⟨(.slice Ai ni ci), .slice At (raD bs).2.length ct, by rw [HCM.out, HC2.out, show (raAn bs).code = cd from HCD.out.symm], by rw [HCM.out]; exact HSZ.out.own HA13.out.ids HA13.out.res (by decide), by rw [HCM.out]; exact HSZ.out.own HA13.out.tk HA13.out.res (by decide)⟩, HA13.out.below.trans (HSZ.out.2 _ (Nat.le_refl _))⟩
          · obtain ⟨hc2, hcm⟩ := ans_end hd0
            obtain ⟨dd, hdd⟩ : ∃ dd, dd = stD bs (raD bs).1 := ⟨_, rfl⟩
            have hne : (dd != 0) = true := by rw [hdd]; simpa using hd0
            have HDD := Lib.hid (tdone_any A cp (raD bs).1 bs w12 hl hpD)
            rw [← hdd] at hc2 HDD ⊢
            have HC2 := Lib.hid hc2
            have HCM := Lib.hid hcm
            clear hc2 hcm hd0 hdd hkm
            have z0 : w12.cell? ⟨g1, 0, none⟩ = some (.slice A bs.length cp) := (blk_cell HA12.out.rd 0).trans rfl
            have z1 : w12.cell? ⟨g1, 1, none⟩ = some (.int .i64 (raD bs).1.p) := (blk_cell HA12.out.rd 1).trans rfl
            have z2 : w12.cell? ⟨g1, 2, none⟩ = some (.int .i64 (raD bs).1.code) := (blk_cell HA12.out.rd 2).trans rfl
            go_wp2_with fail
            refine HDD.out.mono ?_
            rintro e w13 ⟨rfl, hb13⟩
            have HA13 := Lib.hid (HA12.out.later hb13)
            clear hb13 HDD
            go_wp2_with (refine store_event rfl 61 (.tmp 2) (.tmp 90) rfl w.heap.size #[.int .i64 0, .slice none 0 0, .slice none 0 0] rfl rfl 61 #[.int .i64 0, .slice none 0 0, .slice none 0 0] HA13.out.res (ran_info _ _ _) rfl (an_one _ _ _ _ _ _ _) ?_; intro wz hxz hsz; have HXZ := Lib.hid hxz; have HSZ := Lib.hid hsz; clear hxz hsz)
            refine bodyPost_ret (v := .tuple #[.agg #[.int .i64 0, .slice none 0 0, .slice none 0 0], .int .i64 dd]) (ret_ran rfl HXZ.out) rfl ⟨⟨.slice none 0 0, .slice none 0 0, by rw [HCM.out, HC2.out]; rfl, by rw [HCM.out]; exact IOwn.nil _ _, by rw [HCM.out]; exact TOwn.nil _ _ _⟩, HA13.out.below.trans (HSZ.out.2 _ (Nat.le_refl _))⟩
  · have hce : ((raA bs).1.code == 0) = false := by simpa using hcA
    have HCA := Lib.hid hcA
    clear hcA
    go_wp2_with (first
      | (refine store_event rfl 102 (.tmp 5) (.tmp 17) rfl g1 (rcC A bs.length cp (raA bs).1) rfl rfl 102 (rcC A bs.length cp ⟨0, 0⟩) HA2.out.rd (rcC_info _ _ _ _) rfl (rcC_one _ _ _ _) ?_; intro w3 hxs hss; have HA3 := Lib.hid (HA2.out.setRd hxs hss); have zc := (blk_cell HA3.out.at_ 0); have zc0 : w3.cell? ⟨ga, 0, none⟩ = some (.int .i64 0) := (blk_cell HA3.out.at_ 0).trans rfl; have zf0 := blk_frozen HA3.out.at_ 0; clear zc; clear hxs hss)
      | ((with_reducible refine gate_store (t := 3) (p := 19) (v := .tmp 18) rfl ?_); refine cell_event rfl ga 0 (.int .i64 cd) _ _ HA3.out.at_ ?hr ?_; (case hr => first | (go_simp; done) | (go_simp; rfl)); intro w4 hx4 hs4; have HA4 : Hid (RT w w4 g1 ga A bs.length cp (raA bs).1 cd (.slice none 0 0) (.slice none 0 0) [] []) := Lib.hid (HA3.out.setA hx4 hs4 (IOwn.nil _ _)); have z0 : w4.cell? ⟨g1, 0, none⟩ = some (.slice A bs.length cp) := (blk_cell HA4.out.rd 0).trans rfl; have z1 : w4.cell? ⟨g1, 1, none⟩ = some (.int .i64 (raA bs).1.p) := (blk_cell HA4.out.rd 1).trans rfl; have z2 : w4.cell? ⟨g1, 2, none⟩ = some (.int .i64 (raA bs).1.code) := (blk_cell HA4.out.rd 2).trans rfl; clear hx4 hs4 zc0 zf0))
    have eB : raB bs = ((raA bs).1, []) := by
      unfold raB stNs
      rw [if_neg HCA.out]
    have HA5 : Hid (RT w w4 g1 ga A bs.length cp (raB bs).1 cd (.slice none 0 0) (.slice none 0 0) (raB bs).2 []) := Lib.hid (by rw [eB]; exact HA4.out)
    have HEB := Lib.hid eB
    have e5 : (raA bs).1 = (raB bs).1 := by rw [eB]
    rw [e5]
    clear HA4 z0 z1 z2 eB e5
    refine (tnum_any A cp (raB bs).1 bs _ (HD.out.below HA5.out.below) HY.out (stNs_le hpA) hl).mono ?_
    rintro e w9 ⟨rfl, hb9⟩
    unfold rdV
    have HA9 := Lib.hid (HA5.out.later hb9)
    clear hb9 HA5
    obtain ⟨many, hmany⟩ : ∃ many, (stN bs (raB bs).1).2 = many := ⟨_, rfl⟩
    have HM : Hid ((raC bs).2 = many) := Lib.hid hmany
    rw [hmany]
    obtain ⟨lim, hlim⟩ : ∃ lim, min many 10 = lim := ⟨_, rfl⟩
    have HL : Hid (min (raC bs).2 10 = lim) := Lib.hid (by rw [HM.out, hlim])
    have hlim10 : lim ≤ 10 := by omega
    have hlimm : lim ≤ many := by omega
    have HLM := Lib.hid hlim
    clear hmany hlim
    go_wp2_with (refine store_event rfl 102 (.tmp 5) (.tmp 40) rfl g1 (rcC A bs.length cp (raC bs).1) rfl rfl 102 (rcC A bs.length cp (raB bs).1) HA9.out.rd (rcC_info _ _ _ _) rfl (rcC_one _ _ _ _) ?_; intro w10 hxs hss; have HA10 := Lib.hid (HA9.out.setRd hxs hss); skip; clear hxs hss)
    go_loopw [10] (fun i wr => ∃ (k : Nat) (tv : Value), k ≤ lim ∧ i = .int .i64 k ∧ Hid (RT w wr g1 ga A bs.length cp (runK bs k (raC bs).1).1 cd (.slice none 0 0) tv (raB bs).2 (runK bs k (raC bs).1).2)) (fun i _ => lim - (intOf i).toNat)
    case atStart => exact ⟨0, _, by omega, rfl, HA10⟩
    case round =>
      obtain ⟨k, tv, hk, rfl, HA⟩ := hrel
      have hp0 : (runK bs k (raC bs).1).1.p ≤ bs.length := runK_le k (stN_le (stNs_le hpA))
      by_cases hlt : k < lim
      · have hl1 : (k : Int) < (many : Int) := by omega
        have hl2 : (k : Int) < 10 := by omega
        obtain ⟨sk, hsk⟩ : ∃ sk, sk = (runK bs k (raC bs).1).1 := ⟨_, rfl⟩
        rw [← hsk] at HA hp0
        have HSK := Lib.hid hsk
        clear hsk
        go_wp2_with ((with_reducible refine gate_dst (N := 11) rfl ?_); refine box_event ?hg (N := 11) ?hd (cs := #[.int .i64 0, .int .i64 0, .string ⟨#[]⟩, .string ⟨#[]⟩, .string ⟨#[]⟩]) (t := 113) ?hr ?_; (case hd => rfl); (case hg => rfl); (case hr => first | (go_simp; done) | (go_simp; rfl)); intro g6 hg6 wa hxa hba; have HG6 := Lib.hid hg6; have HXa := Lib.hid hxa; have HAa := Lib.hid (HA.out.later hba); have z0 : wa.cell? ⟨g1, 0, none⟩ = some (.slice A bs.length cp) := (blk_cell HAa.out.rd 0).trans rfl; have z1 : wa.cell? ⟨g1, 1, none⟩ = some (.int .i64 sk.p) := (blk_cell HAa.out.rd 1).trans rfl; have z2 : wa.cell? ⟨g1, 2, none⟩ = some (.int .i64 sk.code) := (blk_cell HAa.out.rd 2).trans rfl; clear hg6 hxa hba)
        have HNE := Lib.hid (own_old HA.out.tk (by have := HG6.out; omega) : tv.ownBlock ≠ some g6)
        have hb6 : w.heap.size ≤ g6 := by have := HG6.out; have := HA.out.below.size; omega
        clear HA HG6
        refine (tnum_any A cp sk bs _ (HD.out.below HAa.out.below) HY.out hp0 hl).mono ?_
        rintro e wc0 ⟨rfl, hb⟩
        unfold rdV
        have HAc0 := Lib.hid (HAa.out.later hb)
        have HXc0 := Lib.hid ((hb.block g6 (blk_lt HXa.out)).trans HXa.out)
        have hp1 : (stN bs sk).1.p ≤ bs.length := stN_le hp0
        clear hb z0 z1 z2 HAa HXa
        go_wp2_with (first
          | (refine store_event rfl 102 (.tmp 5) (.tmp 54) rfl g1 (rcC A bs.length cp (stN bs sk).1) rfl rfl 102 (rcC A bs.length cp sk) HAc0.out.rd (rcC_info _ _ _ _) rfl (rcC_one _ _ _ _) ?_; intro ws0 hxs hss; have HAs0 := Lib.hid (HAc0.out.setRd hxs hss); have HXs0 := Lib.hid (hss.far HXc0.out (blk_ne HXc0.out HAc0.out.rd (by decide))); have zc0 : ws0.cell? ⟨g6, 0, none⟩ = some (.int .i64 0) := (blk_cell HXs0.out 0).trans rfl; have zf0 := blk_frozen HXs0.out 0; clear hxs hss)
          | ((with_reducible refine gate_store (t := 3) (p := 56) (v := .tmp 55) rfl ?_); refine cell_event rfl g6 0 (.int .i64 ((stN bs sk).2 : Int)) _ _ HXs0.out ?hr ?_; (case hr => first | (go_simp; done) | (go_simp; rfl)); intro wf0 hxf hsf; have HXf0 := Lib.hid hxf; have HAf0 := Lib.hid (HAs0.out.setTk HXs0.out HNE.out hb6 hsf); have z0 : wf0.cell? ⟨g1, 0, none⟩ = some (.slice A bs.length cp) := (blk_cell HAf0.out.rd 0).trans rfl; have z1 : wf0.cell? ⟨g1, 1, none⟩ = some (.int .i64 (stN bs sk).1.p) := (blk_cell HAf0.out.rd 1).trans rfl; have z2 : wf0.cell? ⟨g1, 2, none⟩ = some (.int .i64 (stN bs sk).1.code) := (blk_cell HAf0.out.rd 2).trans rfl; clear hxf hsf zc0 zf0))
        refine (tnum_any A cp (stN bs sk).1 bs _ (HD.out.below HAf0.out.below) HY.out hp1 hl).mono ?_
        rintro e wc1 ⟨rfl, hb⟩
        unfold rdV
        have HAc1 := Lib.hid (HAf0.out.later hb)
        have HXc1 := Lib.hid ((hb.block g6 (blk_lt HXf0.out)).trans HXf0.out)
        have hp2 : (stN bs (stN bs sk).1).1.p ≤ bs.length := stN_le hp1
        clear hb z0 z1 z2 HAf0 HXf0
        go_wp2_with (first
          | (refine store_event rfl 102 (.tmp 5) (.tmp 60) rfl g1 (rcC A bs.length cp (stN bs (stN bs sk).1).1) rfl rfl 102 (rcC A bs.length cp (stN bs sk).1) HAc1.out.rd (rcC_info _ _ _ _) rfl (rcC_one _ _ _ _) ?_; intro ws1 hxs hss; have HAs1 := Lib.hid (HAc1.out.setRd hxs hss); have HXs1 := Lib.hid (hss.far HXc1.out (blk_ne HXc1.out HAc1.out.rd (by decide))); have zc0 : ws1.cell? ⟨g6, 1, none⟩ = some (.int .i64 0) := (blk_cell HXs1.out 1).trans rfl; have zf0 := blk_frozen HXs1.out 1; clear hxs hss)
          | ((with_reducible refine gate_store (t := 3) (p := 62) (v := .tmp 61) rfl ?_); refine cell_event rfl g6 1 (.int .i64 ((stN bs (stN bs sk).1).2 : Int)) _ _ HXs1.out ?hr ?_; (case hr => first | (go_simp; done) | (go_simp; rfl)); intro wf1 hxf hsf; have HXf1 := Lib.hid hxf; have HAf1 := Lib.hid (HAs1.out.setTk HXs1.out HNE.out hb6 hsf); have z0 : wf1.cell? ⟨g1, 0, none⟩ = some (.slice A bs.length cp) := (blk_cell HAf1.out.rd 0).trans rfl; have z1 : wf1.cell? ⟨g1, 1, none⟩ = some (.int .i64 (stN bs (stN bs sk).1).1.p) := (blk_cell HAf1.out.rd 1).trans rfl; have z2 : wf1.cell? ⟨g1, 2, none⟩ = some (.int .i64 (stN bs (stN bs sk).1).1.code) := (blk_cell HAf1.out.rd 2).trans rfl; clear hxf hsf zc0 zf0))
        refine (ttext_any A cp (stN bs (stN bs sk).1).1 bs _ (HD.out.below HAf1.out.below) HY.out hp2 hl hcap).mono ?_
        rintro e wc2 ⟨rfl, hb⟩
        unfold rdV
        have HAc2 := Lib.hid (HAf1.out.later hb)
        have HXc2 := Lib.hid ((hb.block g6 (blk_lt HXf1.out)).trans HXf1.out)
        have hp3 : (stT bs 256 (stN bs (stN bs sk).1).1).1.p ≤ bs.length := stT_le hp2
        clear hb z0 z1 z2 HAf1 HXf1
        go_wp2_with (first
          | (refine store_event rfl 102 (.tmp 5) (.tmp 66) rfl g1 (rcC A bs.length cp (stT bs 256 (stN bs (stN bs sk).1).1).1) rfl rfl 102 (rcC A bs.length cp (stN bs (stN bs sk).1).1) HAc2.out.rd (rcC_info _ _ _ _) rfl (rcC_one _ _ _ _) ?_; intro ws2 hxs hss; have HAs2 := Lib.hid (HAc2.out.setRd hxs hss); have HXs2 := Lib.hid (hss.far HXc2.out (blk_ne HXc2.out HAc2.out.rd (by decide))); have zc0 : ws2.cell? ⟨g6, 2, none⟩ = some (.string ⟨#[]⟩) := (blk_cell HXs2.out 2).trans rfl; have zf0 := blk_frozen HXs2.out 2; clear hxs hss)
          | ((with_reducible refine gate_store (t := 9) (p := 68) (v := .tmp 67) rfl ?_); refine cell_event rfl g6 2 (.string (stT bs 256 (stN bs (stN bs sk).1).1).2) _ _ HXs2.out ?hr ?_; (case hr => first | (go_simp; done) | (go_simp; rfl)); intro wf2 hxf hsf; have HXf2 := Lib.hid hxf; have HAf2 := Lib.hid (HAs2.out.setTk HXs2.out HNE.out hb6 hsf); have z0 : wf2.cell? ⟨g1, 0, none⟩ = some (.slice A bs.length cp) := (blk_cell HAf2.out.rd 0).trans rfl; have z1 : wf2.cell? ⟨g1, 1, none⟩ = some (.int .i64 (stT bs 256 (stN bs (stN bs sk).1).1).1.p) := (blk_cell HAf2.out.rd 1).trans rfl; have z2 : wf2.cell? ⟨g1, 2, none⟩ = some (.int .i64 (stT bs 256 (stN bs (stN bs sk).1).1).1.code) := (blk_cell HAf2.out.rd 2).trans rfl; clear hxf hsf zc0 zf0))
        refine (ttext_any A cp (stT bs 256 (stN bs (stN bs sk).1).1).1 bs _ (HD.out.below HAf2.out.below) HY.out hp3 hl hcap).mono ?_
        rintro e wc3 ⟨rfl, hb⟩
        unfold rdV
        have HAc3 := Lib.hid (HAf2.out.later hb)
        have HXc3 := Lib.hid ((hb.block g6 (blk_lt HXf2.out)).trans HXf2.out)
        have hp4 : (stT bs 256 (stT bs 256 (stN bs (stN bs sk).1).1).1).1.p ≤ bs.length := stT_le hp3
        clear hb z0 z1 z2 HAf2 HXf2
        go_wp2_with (first
          | (refine store_event rfl 102 (.tmp 5) (.tmp 72) rfl g1 (rcC A bs.length cp (stT bs 256 (stT bs 256 (stN bs (stN bs sk).1).1).1).1) rfl rfl 102 (rcC A bs.length cp (stT bs 256 (stN bs (stN bs sk).1).1).1) HAc3.out.rd (rcC_info _ _ _ _) rfl (rcC_one _ _ _ _) ?_; intro ws3 hxs hss; have HAs3 := Lib.hid (HAc3.out.setRd hxs hss); have HXs3 := Lib.hid (hss.far HXc3.out (blk_ne HXc3.out HAc3.out.rd (by decide))); have zc0 : ws3.cell? ⟨g6, 3, none⟩ = some (.string ⟨#[]⟩) := (blk_cell HXs3.out 3).trans rfl; have zf0 := blk_frozen HXs3.out 3; clear hxs hss)
          | ((with_reducible refine gate_store (t := 9) (p := 74) (v := .tmp 73) rfl ?_); refine cell_event rfl g6 3 (.string (stT bs 256 (stT bs 256 (stN bs (stN bs sk).1).1).1).2) _ _ HXs3.out ?hr ?_; (case hr => first | (go_simp; done) | (go_simp; rfl)); intro wf3 hxf hsf; have HXf3 := Lib.hid hxf; have HAf3 := Lib.hid (HAs3.out.setTk HXs3.out HNE.out hb6 hsf); have z0 : wf3.cell? ⟨g1, 0, none⟩ = some (.slice A bs.length cp) := (blk_cell HAf3.out.rd 0).trans rfl; have z1 : wf3.cell? ⟨g1, 1, none⟩ = some (.int .i64 (stT bs 256 (stT bs 256 (stN bs (stN bs sk).1).1).1).1.p) := (blk_cell HAf3.out.rd 1).trans rfl; have z2 : wf3.cell? ⟨g1, 2, none⟩ = some (.int .i64 (stT bs 256 (stT bs 256 (stN bs (stN bs sk).1).1).1).1.code) := (blk_cell HAf3.out.rd 2).trans rfl; clear hxf hsf zc0 zf0))
        refine (ttext_any A cp (stT bs 256 (stT bs 256 (stN bs (stN bs sk).1).1).1).1 bs _ (HD.out.below HAf3.out.below) HY.out hp4 hl hcap).mono ?_
        rintro e wc4 ⟨rfl, hb⟩
        unfold rdV
        have HAc4 := Lib.hid (HAf3.out.later hb)
        have HXc4 := Lib.hid ((hb.block g6 (blk_lt HXf3.out)).trans HXf3.out)
        have hp5 : (stT bs 256 (stT bs 256 (stT bs 256 (stN bs (stN bs sk).1).1).1).1).1.p ≤ bs.length := stT_le hp4
        clear hb z0 z1 z2 HAf3 HXf3
        go_wp2_with (first
          | (refine store_event rfl 102 (.tmp 5) (.tmp 78) rfl g1 (rcC A bs.length cp (stT bs 256 (stT bs 256 (stT bs 256 (stN bs (stN bs sk).1).1).1).1).1) rfl rfl 102 (rcC A bs.length cp (stT bs 256 (stT bs 256 (stN bs (stN bs sk).1).1).1).1) HAc4.out.rd (rcC_info _ _ _ _) rfl (rcC_one _ _ _ _) ?_; intro ws4 hxs hss; have HAs4 := Lib.hid (HAc4.out.setRd hxs hss); have HXs4 := Lib.hid (hss.far HXc4.out (blk_ne HXc4.out HAc4.out.rd (by decide))); have zc0 : ws4.cell? ⟨g6, 4, none⟩ = some (.string ⟨#[]⟩) := (blk_cell HXs4.out 4).trans rfl; have zf0 := blk_frozen HXs4.out 4; clear hxs hss)
          | ((with_reducible refine gate_store (t := 9) (p := 80) (v := .tmp 79) rfl ?_); refine cell_event rfl g6 4 (.string (stT bs 256 (stT bs 256 (stT bs 256 (stN bs (stN bs sk).1).1).1).1).2) _ _ HXs4.out ?hr ?_; (case hr => first | (go_simp; done) | (go_simp; rfl)); intro wf4 hxf hsf; have HXf4 := Lib.hid hxf; have HAf4 := Lib.hid (HAs4.out.setTk HXs4.out HNE.out hb6 hsf); have zt : wf4.cell? ⟨ga, 2, none⟩ = some tv := (blk_cell HAf4.out.at_ 2).trans rfl; have y0 : wf4.cell? ⟨g6, 0, none⟩ = some (.int .i64 ((stN bs sk).2 : Int)) := (blk_cell HXf4.out 0).trans rfl; have y1 : wf4.cell? ⟨g6, 1, none⟩ = some (.int .i64 ((stN bs (stN bs sk).1).2 : Int)) := (blk_cell HXf4.out 1).trans rfl; have y2 : wf4.cell? ⟨g6, 2, none⟩ = some (.string (stT bs 256 (stN bs (stN bs sk).1).1).2) := (blk_cell HXf4.out 2).trans rfl; have y3 : wf4.cell? ⟨g6, 3, none⟩ = some (.string (stT bs 256 (stT bs 256 (stN bs (stN bs sk).1).1).1).2) := (blk_cell HXf4.out 3).trans rfl; have y4 : wf4.cell? ⟨g6, 4, none⟩ = some (.string (stT bs 256 (stT bs 256 (stT bs 256 (stN bs (stN bs sk).1).1).1).1).2) := (blk_cell HXf4.out 4).trans rfl; have HO15 : Hid (wf4.ownsRow w.heap.size 113 5 tv k (tkC (runK bs k (raC bs).1).2)) := Lib.hid (by (have hq := HAf4.out.tk; rw [TOwn, runK_len] at hq; exact hq)); clear hxf hsf zc0 zf0)
          | (at_builtin; refine print_append_cells (w0 := w) w.heap.size rfl (.tmp 82) (.tmp 84) 59 113 (.agg #[.int .i64 0, .int .i64 0, .string ⟨#[]⟩, .string ⟨#[]⟩, .string ⟨#[]⟩]) 5 64 rfl Tryd.underlying59 info_rtk rfl (by omega) (by omega) tv k (tkC (runK bs k (raC bs).1).2) (stK bs sk).2.cells rfl rfl rfl (by simp [Tk.cells, Value.oneCell']) HO15.out HAf4.out.below HAf4.out.below.size (by omega) ?_; intro v1 w16 hown hb9 hg9 hat9; obtain ⟨Aw, cw, rfl⟩ := own_slice hown; have hq : TOwn 113 w16 w.heap.size (.slice Aw (k + 1) cw) (runK bs (k + 1) (raC bs).1).2 := (by rw [TOwn, runK_len]; simp only [runK]; rw [tkC_last, ← HSK.out]; exact hown); have HF := Lib.hid (HAf4.out.app hg9 hb9 hq); have a1 := blk_grown HAf4.out.at_ hg9 (own_ne HAf4.out.tk HAf4.out.at_ (by decide)); have zc9 : w16.cell? ⟨ga, 2, none⟩ = some tv := (blk_cell a1 2).trans rfl; have fc9 := blk_frozen a1 2; clear hown hb9 hg9 hat9 hq a1))
        go_roundw
        case rel =>
          have e1 : (runK bs (k + 1) (raC bs).1).1 = (stK bs sk).1 := by rw [HSK.out]; rfl
          exact ⟨k + 1, _, by omega, by go_num, Lib.hid (by rw [e1]; exact HF.out)⟩
        case measure => simp [intOf]; omega
      · obtain rfl : k = lim := by omega
        rw [← HL.out] at HA
        have HA11 : Hid (RT w wr g1 ga A bs.length cp (raD bs).1 cd (.slice none 0 0) tv (raB bs).2 (raD bs).2) := HA
        have hpD : (raD bs).1.p ≤ bs.length := runK_le _ (stN_le (stNs_le hpA))
        clear HA hp0 HA10 HA9
        obtain ⟨At, ct, rfl, _, _⟩ := TOwn.form HA11.out.tk
        have z0 : wr.cell? ⟨g1, 0, none⟩ = some (.slice A bs.length cp) := (blk_cell HA11.out.rd 0).trans rfl
        have z1 : wr.cell? ⟨g1, 1, none⟩ = some (.int .i64 (raD bs).1.p) := (blk_cell HA11.out.rd 1).trans rfl
        have z2 : wr.cell? ⟨g1, 2, none⟩ = some (.int .i64 (raD bs).1.code) := (blk_cell HA11.out.rd 2).trans rfl
        have hmm : (many : Int) ≤ k ∨ (10 : Int) ≤ k := by have := HLM.out; omega
        have HMM := Lib.hid hmm
        clear hmm
        by_cases hkm : (k : Int) < (many : Int)
        all_goals
          (try have hk10 : (10 : Int) ≤ (k : Int) := HMM.out.resolve_left (by omega))
          go_wp2_with fail
          refine (tdone_any A cp (raD bs).1 bs _ hl hpD).mono ?_
          rintro e w12 ⟨rfl, hb12⟩
          have HA12 := Lib.hid (HA11.out.later hb12)
          clear hb12 HA11 z0 z1 z2
          by_cases hd0 : stD bs (raD bs).1 = 0
          · have HD0 := Lib.hid hd0
            rw [hd0]
            clear hd0
            by_cases hm10 : (10 : Int) < (many : Int)
            · clear hkm
              obtain ⟨hc2, hcm⟩ := codeA_bad HY.out HD0.out (.inl (by have := HM.out; omega))
              have HC2 := Lib.hid hc2
              have HCM := Lib.hid hcm
              clear hc2 hcm
              go_wp2_with (refine store_event rfl 61 (.tmp 2) (.tmp 100) rfl w.heap.size #[.int .i64 0, .slice none 0 0, .slice none 0 0] rfl rfl 61 #[.int .i64 0, .slice none 0 0, .slice none 0 0] HA12.out.res (ran_info _ _ _) rfl (an_one _ _ _ _ _ _ _) ?_; intro wz hxz hsz; have HXZ := Lib.hid hxz; have HSZ := Lib.hid hsz; clear hxz hsz)
              refine bodyPost_ret (v := .tuple #[.agg #[.int .i64 0, .slice none 0 0, .slice none 0 0], .int .i64 2]) (ret_ran rfl HXZ.out) rfl ⟨⟨.slice none 0 0, .slice none 0 0, by rw [HCM.out, HC2.out]; rfl, by rw [HCM.out]; exact IOwn.nil _ _, by rw [HCM.out]; exact TOwn.nil _ _ _⟩, HA12.out.below.trans (HSZ.out.2 _ (Nat.le_refl _))⟩
            · have l0 := ldA_of HA12.out.at_
              have hI : IRead w12 none (raAn bs).ids := by
                obtain ⟨A2, c2, e2, _, h2⟩ := IOwn.form HA12.out.ids
                injection e2 with e2 _ _
                rw [e2]; exact h2
              have hT : TRead w12 At (raAn bs).took := by
                obtain ⟨A2, c2, e2, _, h2⟩ := TOwn.form HA12.out.tk
                injection e2 with e2 _ _
                rw [e2]; exact h2
              have hR := trA_any (raAn bs) none At 0 ct w12 hI hT
              rw [show (raAn bs).ids.length = 0 from (by show (raB bs).2.length = 0; rw [HEB.out]; rfl), show (raAn bs).code = cd from HCD.out.symm] at hR
              have HR := Lib.hid hR
              clear hI hT hR hkm
              go_wp2_with fail
              refine HR.out.mono ?_
              rintro e w13 ⟨rfl, hb13⟩
              have HA13 := Lib.hid (HA12.out.later hb13)
              clear hb13 l0
              cases hrr : rightA (raAn bs) with
              | false =>
                obtain ⟨hc2, hcm⟩ := codeA_bad HY.out HD0.out (.inr hrr)
                have HC2 := Lib.hid hc2
                have HCM := Lib.hid hcm
                clear hc2 hcm
                go_wp2_with (refine store_event rfl 61 (.tmp 2) (.tmp 100) rfl w.heap.size #[.int .i64 0, .slice none 0 0, .slice none 0 0] rfl rfl 61 #[.int .i64 0, .slice none 0 0, .slice none 0 0] HA13.out.res (ran_info _ _ _) rfl (an_one _ _ _ _ _ _ _) ?_; intro wz hxz hsz; have HXZ := Lib.hid hxz; have HSZ := Lib.hid hsz; clear hxz hsz)
                refine bodyPost_ret (v := .tuple #[.agg #[.int .i64 0, .slice none 0 0, .slice none 0 0], .int .i64 2]) (ret_ran rfl HXZ.out) rfl ⟨⟨.slice none 0 0, .slice none 0 0, by rw [HCM.out, HC2.out]; rfl, by rw [HCM.out]; exact IOwn.nil _ _, by rw [HCM.out]; exact TOwn.nil _ _ _⟩, HA13.out.below.trans (HSZ.out.2 _ (Nat.le_refl _))⟩
              | true =>
                obtain ⟨hc2, hcm⟩ := codeA_good HY.out HD0.out (by rintro (h | h) <;> first | (have := HM.out; omega) | (rw [hrr] at h; exact absurd h (by decide)))
                have HC2 := Lib.hid hc2
                have HCM := Lib.hid hcm
                clear hc2 hcm hrr
                have l0 := ldA_of HA13.out.at_
                go_wp2_with (refine store_event rfl 61 (.tmp 2) (.tmp 101) rfl w.heap.size #[.int .i64 cd, (.slice none 0 0), .slice At (raD bs).2.length ct] rfl rfl 61 #[.int .i64 0, .slice none 0 0, .slice none 0 0] HA13.out.res (ran_info _ _ _) rfl (an_one _ _ _ _ _ _ _) ?_; intro wz hxz hsz; have HXZ := Lib.hid hxz; have HSZ := Lib.hid hsz; clear hxz hsz)
                refine bodyPost_ret (v := .tuple #[.agg #[.int .i64 cd, (.slice none 0 0), .slice At (raD bs).2.length ct], .int .i64 0]) (ret_ran rfl HXZ.out) rfl ⟨⟨(.slice none 0 0), .slice At (raD bs).2.length ct, by rw [HCM.out, HC2.out, show (raAn bs).code = cd from HCD.out.symm], by rw [HCM.out]; exact HSZ.out.own HA13.out.ids HA13.out.res (by decide), by rw [HCM.out]; exact HSZ.out.own HA13.out.tk HA13.out.res (by decide)⟩, HA13.out.below.trans (HSZ.out.2 _ (Nat.le_refl _))⟩
          · obtain ⟨hc2, hcm⟩ := ans_end hd0
            obtain ⟨dd, hdd⟩ : ∃ dd, dd = stD bs (raD bs).1 := ⟨_, rfl⟩
            have hne : (dd != 0) = true := by rw [hdd]; simpa using hd0
            have HDD := Lib.hid (tdone_any A cp (raD bs).1 bs w12 hl hpD)
            rw [← hdd] at hc2 HDD ⊢
            have HC2 := Lib.hid hc2
            have HCM := Lib.hid hcm
            clear hc2 hcm hd0 hdd hkm
            have z0 : w12.cell? ⟨g1, 0, none⟩ = some (.slice A bs.length cp) := (blk_cell HA12.out.rd 0).trans rfl
            have z1 : w12.cell? ⟨g1, 1, none⟩ = some (.int .i64 (raD bs).1.p) := (blk_cell HA12.out.rd 1).trans rfl
            have z2 : w12.cell? ⟨g1, 2, none⟩ = some (.int .i64 (raD bs).1.code) := (blk_cell HA12.out.rd 2).trans rfl
            go_wp2_with fail
            refine HDD.out.mono ?_
            rintro e w13 ⟨rfl, hb13⟩
            have HA13 := Lib.hid (HA12.out.later hb13)
            clear hb13 HDD
            go_wp2_with (refine store_event rfl 61 (.tmp 2) (.tmp 90) rfl w.heap.size #[.int .i64 0, .slice none 0 0, .slice none 0 0] rfl rfl 61 #[.int .i64 0, .slice none 0 0, .slice none 0 0] HA13.out.res (ran_info _ _ _) rfl (an_one _ _ _ _ _ _ _) ?_; intro wz hxz hsz; have HXZ := Lib.hid hxz; have HSZ := Lib.hid hsz; clear hxz hsz)
            refine bodyPost_ret (v := .tuple #[.agg #[.int .i64 0, .slice none 0 0, .slice none 0 0], .int .i64 dd]) (ret_ran rfl HXZ.out) rfl ⟨⟨.slice none 0 0, .slice none 0 0, by rw [HCM.out, HC2.out]; rfl, by rw [HCM.out]; exact IOwn.nil _ _, by rw [HCM.out]; exact TOwn.nil _ _ _⟩, HA13.out.below.trans (HSZ.out.2 _ (Nat.le_refl _))⟩
end Go.Proofs.YtlgippliihgcjaaDoor.C

