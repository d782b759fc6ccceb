/- awake. -/
import Derived.Test.YtlgippliihgcjaaDoorC6
import Derived.Test.YtlgippliihgcjaaDoorR9
import Derived.Test.YtlgippliihgcjaaDoorA3
import Derived.Test.YtlgippliihgcjaaDoorP1
namespace Go.Proofs.YtlgippliihgcjaaDoor.C
set_option linter.unusedVariables false
set_option linter.unusedSimpArgs false
open Go.RowKit Go.Proofs.YtlgippliihgcjaaDoorW.PrintWords Go.Proofs.YtlgippliihgcjaaDoorW.PrintLast

theorem errV_zero {w : World} {base : Nat} {v : Value} {a_ : Int} (h : ErrV w base v a_ 0) : v = .nilIface := h.elim (fun h => h.2) (fun h => absurd rfl h.1)

theorem bread_blk {w : World} {g : Nat} {xs : List Int} {t : TypeId} (h : w.heap[g]? = some (.cells (xs.map (Value.int .u8)).toArray t (0, 0))) (hl : xs.length ≤ 9223372036854775807) : BRead w (some ⟨g, 0, none⟩) xs :=
  Kd.C_of_reads (d := 0) ⟨rfl, hl, fun _ => ⟨_, rfl, fun j hj => by
    have e : (⟨g, 0, none⟩ : Addr).add j = ⟨g, j, none⟩ := by simp [Addr.add]; intro h; exact h.symm
    rw [e, blk_cell h j, List.getD_eq_getElem?_getD, List.getElem?_eq_getElem hj]
    simp [List.getElem?_eq_getElem hj]⟩⟩

/-- The command of awake. -/
def c5 : Cm := { client := 0, req := 0, kind := 0, queue := ⟨#[]⟩, vis := 0, ret := 0, del := 0, win := 0, mx := 0, dead := ⟨#[]⟩, fifo := false, body := ⟨#[]⟩, group := ⟨#[]⟩, key := ⟨#[]⟩, receipt := ⟨#[]⟩, bodies := [], n := 5, m := 0 }
/-- The answer of awake. -/
def a6 : An := { code := 6, ids := [], took := [] }
theorem c5_right : right c5 = true := by decide
theorem a6_right : rightA a6 = true := by decide
theorem c5_enc : encB c5 = [0, 0, 0, 6, 0, 0, 0, 0, 0, 0, 0, 0, 0, 0, 0, 0, 0, 0] := by
  simp [encB, c5, Cm.nums, Cm.txts, fm, ft, txtB, bytesOf, numB_small, ByteArray.size]
theorem a6_enc : encA a6 = [6, 0, 0] := by
  simp [encA, a6, rowB, tksB, fm, numB_small]

set_option maxHeartbeats 16000000 in
set_option maxRecDepth 100000 in
theorem awake_any (w : World) : Calls Tryd.prog 9 #[] w fun e w' => e = .returned (.bool true) ∧ Below w.heap.size w w' := by
  go_enter Tryd.func9, Tryd.ntmps9
  go_wp2_with fail
  refine (write_yes c5 none 0 _ (Kd.C_nil _ _) c5_right).mono ?_
  rintro e w1 ⟨v, rfl, ho1, hb1⟩
  obtain ⟨A1, k1, rfl, hk1, hr1⟩ := ho1.form
  have HO1 := Lib.hid hr1
  have HB1 := Lib.hid hb1
  clear ho1 hr1 hb1 hk1
  go_wp2_with fail
  refine (read_any A1 k1 (encB c5) _ HO1.out (by rw [c5_enc]; decide) (fun b hb => encB_bytes _ b hb)).mono ?_
  rintro e w2 ⟨⟨bv, ev, a_, rfl, he, hs⟩, hb2⟩
  rw [(read_enc c5_right).1] at he
  rw [(read_enc c5_right).2] at hs ⊢
  obtain ⟨A2, k2, rfl, hk2, hr2⟩ := hs.form
  have hev := errV_zero he
  subst hev
  have HB2 := Lib.hid hb2
  have HO2 := Lib.hid (HO1.out.below hb2)
  clear he hs hk2 hr2 hb2
  have hcv : cvR c5 (.slice A2 c5.bodies.length k2) = #[.int .i64 0, .int .i64 0, .int .i64 0, .string ⟨#[]⟩, .int .i64 0, .int .i64 0, .int .i64 0, .int .i64 0, .int .i64 0, .string ⟨#[]⟩, .bool false, .string ⟨#[]⟩, .string ⟨#[]⟩, .string ⟨#[]⟩, .string ⟨#[]⟩, .slice A2 0 k2, .int .i64 5, .int .i64 0] := rfl
  rw [hcv]
  clear hcv
  go_wp2_with fail
  have HX : Hid ((w2.alloc (.cells #[.int .i64 0, .int .i64 0, .int .i64 0, .string ⟨#[]⟩, .int .i64 0, .int .i64 0, .int .i64 0, .int .i64 0, .int .i64 0, .string ⟨#[]⟩, .bool false, .string ⟨#[]⟩, .string ⟨#[]⟩, .string ⟨#[]⟩, .string ⟨#[]⟩, .slice A2 0 k2, .int .i64 5, .int .i64 0] 26)).heap[w2.heap.size]? = some (.cells #[.int .i64 0, .int .i64 0, .int .i64 0, .string ⟨#[]⟩, .int .i64 0, .int .i64 0, .int .i64 0, .int .i64 0, .int .i64 0, .string ⟨#[]⟩, .bool false, .string ⟨#[]⟩, .string ⟨#[]⟩, .string ⟨#[]⟩, .string ⟨#[]⟩, .slice A2 0 k2, .int .i64 5, .int .i64 0] 26 (0, 0))) := Lib.hid (heap_alloc_new _ _)
  have HB3 := Lib.hid (below_alloc (Below.refl w2.heap.size w2) (.cells #[.int .i64 0, .int .i64 0, .int .i64 0, .string ⟨#[]⟩, .int .i64 0, .int .i64 0, .int .i64 0, .int .i64 0, .int .i64 0, .string ⟨#[]⟩, .bool false, .string ⟨#[]⟩, .string ⟨#[]⟩, .string ⟨#[]⟩, .string ⟨#[]⟩, .slice A2 0 k2, .int .i64 5, .int .i64 0] 26))
  generalize w2.alloc (.cells #[.int .i64 0, .int .i64 0, .int .i64 0, .string ⟨#[]⟩, .int .i64 0, .int .i64 0, .int .i64 0, .int .i64 0, .int .i64 0, .string ⟨#[]⟩, .bool false, .string ⟨#[]⟩, .string ⟨#[]⟩, .string ⟨#[]⟩, .string ⟨#[]⟩, .slice A2 0 k2, .int .i64 5, .int .i64 0] 26) = w3 at HX HB3 ⊢
  have HO3 := Lib.hid (HO2.out.below HB3.out)
  have HBa := Lib.hid ((HB1.out.trans (HB2.out.mono HB1.out.size)).trans (HB3.out.mono (Nat.le_trans HB1.out.size HB2.out.size)))
  generalize w2.heap.size = gx at HX ⊢
  clear HB3 HB2 HB1 HO1 HO2
  refine (writeA_yes a6 none none 0 0 _ (Kd.C_nil _ _) (Kd.C_nil _ _) a6_right).mono ?_
  rintro e w4 ⟨v, rfl, ho4, hb4⟩
  obtain ⟨A4, k4, rfl, hk4, hr4⟩ := ho4.form
  have HO4 := Lib.hid hr4
  have HO5 := Lib.hid (HO3.out.below hb4)
  have HX4 := Lib.hid ((hb4.block gx (blk_lt HX.out)).trans HX.out)
  have HB4 := Lib.hid (HBa.out.trans (hb4.mono HBa.out.size))
  have hn : w4.cell? ⟨gx, 16, none⟩ = some (.int .i64 5) := (blk_cell HX4.out 16).trans rfl
  clear ho4 hk4 hr4 hb4 HO3 HX HBa
  go_wp2_with fail
  have HL : Hid ((w4.alloc (.cells #[.int .u8 0, .int .u8 0, .int .u8 0, .int .u8 6, .int .u8 0, .int .u8 0, .int .u8 0, .int .u8 0, .int .u8 0, .int .u8 0, .int .u8 0, .int .u8 0, .int .u8 0, .int .u8 0, .int .u8 0, .int .u8 0, .int .u8 0, .int .u8 0] 5)).heap[w4.heap.size]? = some (.cells #[.int .u8 0, .int .u8 0, .int .u8 0, .int .u8 6, .int .u8 0, .int .u8 0, .int .u8 0, .int .u8 0, .int .u8 0, .int .u8 0, .int .u8 0, .int .u8 0, .int .u8 0, .int .u8 0, .int .u8 0, .int .u8 0, .int .u8 0, .int .u8 0] 5 (0, 0))) := Lib.hid (heap_alloc_new _ _)
  have HB5 := Lib.hid (below_alloc (Below.refl w4.heap.size w4) (.cells #[.int .u8 0, .int .u8 0, .int .u8 0, .int .u8 6, .int .u8 0, .int .u8 0, .int .u8 0, .int .u8 0, .int .u8 0, .int .u8 0, .int .u8 0, .int .u8 0, .int .u8 0, .int .u8 0, .int .u8 0, .int .u8 0, .int .u8 0, .int .u8 0] 5))
  generalize w4.alloc (.cells #[.int .u8 0, .int .u8 0, .int .u8 0, .int .u8 6, .int .u8 0, .int .u8 0, .int .u8 0, .int .u8 0, .int .u8 0, .int .u8 0, .int .u8 0, .int .u8 0, .int .u8 0, .int .u8 0, .int .u8 0, .int .u8 0, .int .u8 0, .int .u8 0] 5) = w5 at HL HB5 ⊢
  have HO6 := Lib.hid (HO5.out.below HB5.out)
  have HO7 := Lib.hid (HO4.out.below HB5.out)
  have HX5 := Lib.hid ((HB5.out.block gx (blk_lt HX4.out)).trans HX4.out)
  have HBb := Lib.hid (HB4.out.trans (HB5.out.mono HB4.out.size))
  clear hn
  have hn : w5.cell? ⟨gx, 16, none⟩ = some (.int .i64 5) := (blk_cell HX5.out 16).trans rfl
  have HR5 := Lib.hid (bread_blk (xs := [0, 0, 0, 6, 0, 0, 0, 0, 0, 0, 0, 0, 0, 0, 0, 0, 0, 0]) HL.out (by decide))
  clear HB5 HB4 HX4 HO4 HO5 HL
  refine (bEq_any A1 _ k1 18 (encB c5) [0, 0, 0, 6, 0, 0, 0, 0, 0, 0, 0, 0, 0, 0, 0, 0, 0, 0] _ HO6.out HR5.out (fun x hx => encB_bytes _ x hx) (by decide)).mono ?_
  rintro e w6 ⟨rfl, rfl⟩
  rw [c5_enc, decide_eq_true rfl]
  go_wp2_with fail
  have HL2 : Hid ((w5.alloc (.cells #[.int .u8 6, .int .u8 0, .int .u8 0] 5)).heap[w5.heap.size]? = some (.cells #[.int .u8 6, .int .u8 0, .int .u8 0] 5 (0, 0))) := Lib.hid (heap_alloc_new _ _)
  have HB6 := Lib.hid (below_alloc (Below.refl w5.heap.size w5) (.cells #[.int .u8 6, .int .u8 0, .int .u8 0] 5))
  generalize w5.alloc (.cells #[.int .u8 6, .int .u8 0, .int .u8 0] 5) = w6 at HL2 HB6 ⊢
  have HO8 := Lib.hid (HO7.out.below HB6.out)
  have HR6 := Lib.hid (bread_blk (xs := [6, 0, 0]) HL2.out (by decide))
  have HBc := Lib.hid (HBb.out.trans (HB6.out.mono HBb.out.size))
  clear HB6 HBb HO7 HL2 HR5 HO6 HX5 hn
  refine (bEq_any A4 _ k4 3 (encA a6) [6, 0, 0] _ HO8.out HR6.out (by rw [a6_enc]; decide) (by decide)).mono ?_
  rintro e w7 ⟨rfl, rfl⟩
  rw [a6_enc, decide_eq_true rfl]
  go_wp2_with fail
  go_ret
  exact ⟨rfl, HBc.out⟩

end Go.Proofs.YtlgippliihgcjaaDoor.C
