/- The document's bytes of a command. -/
import Derived.Test.YtlgippliihgcjaaDoorS5
import Derived.Test.YtlgippliihgcjaaDoorP3
namespace Go.Proofs.YtlgippliihgcjaaDoor.C
set_option linter.unusedVariables false
set_option linter.unusedSimpArgs false
open Go.RowKit Go.Proofs.YtlgippliihgcjaaDoorW.PrintWords

/-- While the document's bytes are written. -/
structure WInv (w wr : World) (g : Nat) (c : Cm) (bv v : Value) (pre : List Int) : Prop where
  own : BOwn wr w.heap.size v pre
  at_ : wr.heap[g]? = some (.cells #[.int .i64 c.client, .int .i64 c.req, .int .i64 c.kind, .string c.queue, .int .i64 c.vis, .int .i64 c.ret, .int .i64 c.del, .int .i64 c.win, .int .i64 c.mx, .string c.dead, .bool c.fifo, .string c.body, .string c.group, .string c.key, .string c.receipt, bv, .int .i64 c.n, .int .i64 c.m] 37 (0, 0))
  below : Below w.heap.size w wr
theorem WInv.later {w wr w' : World} {g : Nat} {c : Cm} {bv v : Value} {pre : List Int} (h : WInv w wr g c bv v pre) (hb : Below wr.heap.size wr w') : WInv w w' g c bv v pre :=
  ⟨h.own.below hb, (hb.block _ (blk_lt h.at_)).trans h.at_, h.below.trans (hb.mono h.below.size)⟩
theorem WInv.append {w wr w' : World} {g : Nat} {c : Cm} {bv v v1 : Value} {pre pre' : List Int} (h : WInv w wr g c bv v pre) (hg : wr.grownBy w' v.ownBlock) (hb : Below w.heap.size w w') (ho : BOwn w' w.heap.size v1 pre') : WInv w w' g c bv v1 pre' :=
  ⟨ho, blk_grown h.at_ hg (own_ne h.own h.at_ (by decide)), hb⟩
theorem WInv.bodies {w wr : World} {g : Nat} {c : Cm} {bv v : Value} {pre : List Int} (h : WInv w wr g c bv v pre) : wr.cell? ⟨g, 15, none⟩ = some bv := (blk_cell h.at_ 15).trans rfl
theorem numsF_len (c : Cm) : c.numsF.length = 11 := by simp [Cm.numsF, Cm.nums]
theorem numsF_at {c : Cm} (h : c.nums.all numOk = true) {k : Nat} {x : Int} (hx : c.numsF[k]? = some x) : 0 ≤ x ∧ x ≤ 4611686018427387904 := numOk_iff (all_at (by rw [numsF_all]; exact h) hx)
theorem fm_numsF (c : Cm) : fm c.numsF = fm c.nums ++ numB (if c.fifo then 1 else 0) := by
  unfold Cm.numsF
  rw [fm_last]
  cases c.fifo <;> rfl

set_option maxHeartbeats 8000000 in
set_option maxRecDepth 100000 in
theorem twrite_any (c : Cm) (A : Option Addr) (k : Nat) (w : World) (hC : Kd.string.C w A c.bodies.length c.bodies) (hr : right c = true) :
    Calls Tryd.prog 17 #[.agg #[.int .i64 c.client, .int .i64 c.req, .int .i64 c.kind, .string c.queue, .int .i64 c.vis, .int .i64 c.ret, .int .i64 c.del, .int .i64 c.win, .int .i64 c.mx, .string c.dead, .bool c.fifo, .string c.body, .string c.group, .string c.key, .string c.receipt, .slice A c.bodies.length k, .int .i64 c.n, .int .i64 c.m]] w fun e w' => ∃ v, e = .returned v ∧ BOwn w' w.heap.size v (encB c) ∧ Below w.heap.size w w' := by
  obtain ⟨h0, h1, hn, ht, hbl, hb⟩ := right_n hr
  have HC := Lib.hid hC
  have HN := Lib.hid hn
  have HT := Lib.hid ht
  have HBD := Lib.hid hb
  clear hC hn ht hb hr
  go_enter Tryd.func17, Tryd.ntmps17
  go_wp2_with (first
    | ((with_reducible refine gate_dst (N := 1) rfl ?_); refine box_event ?hg (N := 1) ?hd (cs := #[.int .i64 c.client, .int .i64 c.req, .int .i64 c.kind, .string c.queue, .int .i64 c.vis, .int .i64 c.ret, .int .i64 c.del, .int .i64 c.win, .int .i64 c.mx, .string c.dead, .bool c.fifo, .string c.body, .string c.group, .string c.key, .string c.receipt, .slice A c.bodies.length k, .int .i64 c.n, .int .i64 c.m]) (t := 37) ?hr ?_; (case hd => rfl); (case hg => rfl); (case hr => first | (go_simp; done) | (go_simp; rfl)); intro g hg w1 hbox hb1; have HI0 : Hid (WInv w w1 g c (.slice A c.bodies.length k) (.slice none 0 0) []) := Lib.hid ⟨BOwn.nil _ _, hbox, hb1⟩; clear hg hbox hb1)
    | ((with_reducible refine gate_dst (N := 9) rfl ?_); refine wpList_load_row rfl 37 (.tmp 1) rfl g rfl 37 #[.int .i64 c.client, .int .i64 c.req, .int .i64 c.kind, .string c.queue, .int .i64 c.vis, .int .i64 c.ret, .int .i64 c.del, .int .i64 c.win, .int .i64 c.mx, .string c.dead, .bool c.fifo, .string c.body, .string c.group, .string c.key, .string c.receipt, .slice A c.bodies.length k, .int .i64 c.n, .int .i64 c.m] (0, 0) _ HI0.out.at_ Tryd.underlying37 rfl (by kernel_rfl) ?_))
  refine (tnumbers_any c _ _ h0 h1).mono ?_
  rintro e w2 ⟨v, rfl, ho, hb2⟩
  obtain ⟨An, cn, rfl, _, _⟩ := ho.form
  have hlen : (c.nums ++ [if c.fifo then 1 else 0]).length = 11 := by simp [Cm.nums]
  have HL : Hid (IOwn w2 w.heap.size (.slice An 11 cn) c.numsF) := Lib.hid (by rw [← hlen]; exact ho.lower HI0.out.below.size)
  have HI2 := Lib.hid (HI0.out.later hb2)
  rw [hlen]
  clear hlen ho hb2 HI0
  go_wp2_with fail
  go_loopw [3, 5] (fun b i wr => ∃ (kk : Nat), kk ≤ 11 ∧ i = .int .i64 kk ∧ Hid (WInv w wr g c (.slice A c.bodies.length k) b (fm (c.numsF.take kk))) ∧ Hid (IOwn wr w.heap.size (.slice An 11 cn) c.numsF)) (fun _ i _ => 11 - (intOf i).toNat)
  case atStart => exact ⟨0, by omega, rfl, HI2, HL⟩
  case round =>
    obtain ⟨kk, hk, rfl, HI, HQ⟩ := hrel
    by_cases hlt : (kk : Int) < 11
    · obtain ⟨x, hx⟩ : ∃ x, c.numsF[kk]? = some x := ⟨_, List.getElem?_eq_getElem (by rw [numsF_len]; omega)⟩
      obtain ⟨ad, rfl, hcell⟩ := iown_at HQ.out (Below.refl _ _) hx
      have hx2 := numsF_at HN.out hx
      have HX := Lib.hid (fm_snoc hx)
      have HLN := Lib.hid (fm_take_len (l := c.numsF) (by rw [numsF_all]; exact HN.out) kk)
      have hnl := numB_len' (n := x.toNat) (by omega)
      rw [numsF_len] at HLN
      clear hx
      go_wp2_with fail
      refine (refNum_any x _ hx2.1 (by omega)).mono ?_
      rintro e w5 ⟨v5, rfl, ho, hb5⟩
      obtain ⟨A2, c2, rfl, _, hr2⟩ := ho.form
      have HR2 := Lib.hid hr2
      have HI5 := Lib.hid (HI.out.later hb5)
      have HQ5 := Lib.hid (HQ.out.below hb5)
      clear ho hr2 hb5 HI HQ hcell
      go_wp2_with (at_builtin; refine print_append_row (w0 := w) w.heap.size rfl (.tmp 17) (.tmp 22) 30 5 .u8 1 rfl Tryd.underlying30 info_u8 (by omega) _ (fm (c.numsF.take kk)) (numB x.toNat) A2 _ c2 rfl rfl HI5.out.own HR2.out.reads HI5.out.below HI5.out.below.size (by have := HLN.out; omega) ?_; intro v1 w9 hown hb9 hg9 hat9; have HI9 := Lib.hid (HI5.out.append hg9 hb9 hown); have HG9 := Lib.hid hg9; clear hown hb9 hg9 hat9)
      go_roundw
      case rel => exact ⟨kk + 1, by omega, by go_num, by rw [HX.out]; exact HI9, Lib.hid (own_other HQ5.out HG9.out (own_type_ne HQ5.out HI5.out.own (by decide)))⟩
      case measure => simp [intOf]; omega
    · obtain rfl : kk = 11 := by omega
      have HI6 : Hid (WInv w wr g c (.slice A c.bodies.length k) u3 (fm c.numsF)) := Lib.hid (by have := HI.out; rwa [List.take_of_length_le (by rw [numsF_len]; omega)] at this)
      have HLF := Lib.hid (fm_len (l := c.numsF) (by rw [numsF_all]; exact HN.out))
      rw [numsF_len] at HLF
      clear HI HQ HL
      go_wp2_with ((with_reducible refine gate_dst (N := 24) rfl ?_); refine wpList_load_row rfl 37 (.tmp 1) rfl g rfl 37 #[.int .i64 c.client, .int .i64 c.req, .int .i64 c.kind, .string c.queue, .int .i64 c.vis, .int .i64 c.ret, .int .i64 c.del, .int .i64 c.win, .int .i64 c.mx, .string c.dead, .bool c.fifo, .string c.body, .string c.group, .string c.key, .string c.receipt, .slice A c.bodies.length k, .int .i64 c.n, .int .i64 c.m] (0, 0) _ HI6.out.at_ Tryd.underlying37 rfl (by kernel_rfl) ?_)
      refine (ttexts_any c _ _).mono ?_
      rintro e w6 ⟨v6, rfl, ho, hb6⟩
      obtain ⟨At, ct, rfl, _, _⟩ := ho.form
      have hlen : c.txts.length = 6 := rfl
      have HT6 : Hid (SOwn w6 w.heap.size (.slice At 6 ct) c.txts) := Lib.hid (by rw [← hlen]; exact ho.lower HI6.out.below.size)
      have HI7 := Lib.hid (HI6.out.later hb6)
      rw [hlen]
      clear hlen ho hb6 HI6
      go_wp2_with fail
      go_loopw [3, 7] (fun b i wr => ∃ (kk : Nat), kk ≤ 6 ∧ i = .int .i64 kk ∧ Hid (WInv w wr g c (.slice A c.bodies.length k) b (fm c.numsF ++ ft (c.txts.take kk))) ∧ Hid (SOwn wr w.heap.size (.slice At 6 ct) c.txts)) (fun _ i _ => 6 - (intOf i).toNat)
      case atStart => exact ⟨0, by omega, rfl, Lib.hid (by have := HI7.out; rwa [← List.append_nil (fm c.numsF)] at this), HT6⟩
      case round =>
        obtain ⟨kk, hk, rfl, HI, HQ⟩ := hrel
        by_cases hlt : (kk : Int) < 6
        · obtain ⟨x, hx⟩ : ∃ x, c.txts[kk]? = some x := ⟨_, List.getElem?_eq_getElem (by show kk < 6; omega)⟩
          obtain ⟨ad, rfl, hcell⟩ := sown_at HQ.out (Below.refl _ _) hx
          have hx2 := txtOk_iff (all_at HT.out hx)
          have HX := Lib.hid (ft_snoc hx)
          have hl1 := ft_take_len (l := c.txts) HT.out kk
          have hl2 := txtB_len x (by omega)
          have HLN : Hid ((fm c.numsF ++ ft (c.txts.take kk)).length ≤ 10000 ∧ (txtB x).length ≤ 300) := Lib.hid ⟨by have := HLF.out; rw [List.length_append]; change _ ≤ 265 * 6 at hl1; omega, by omega⟩
          clear hx hl1 hl2
          go_wp2_with fail
          refine (refText_own x _ (by omega)).mono ?_
          rintro e w5 ⟨v5, rfl, ho, hb5⟩
          obtain ⟨A2, c2, rfl, _, hr2⟩ := ho.form
          have HR2 := Lib.hid hr2
          have HI5 := Lib.hid (HI.out.later hb5)
          have HQ5 := Lib.hid (HQ.out.below hb5)
          clear ho hr2 hb5 HI HQ hcell
          go_wp2_with (at_builtin; refine print_append_row (w0 := w) w.heap.size rfl (.tmp 32) (.tmp 37) 30 5 .u8 1 rfl Tryd.underlying30 info_u8 (by omega) _ (fm c.numsF ++ ft (c.txts.take kk)) (txtB x) A2 _ c2 rfl rfl HI5.out.own HR2.out.reads HI5.out.below HI5.out.below.size (by have := HLN.out; omega) ?_; intro v1 w9 hown hb9 hg9 hat9; have HI9 := Lib.hid (HI5.out.append hg9 hb9 hown); have HG9 := Lib.hid hg9; clear hown hb9 hg9 hat9)
          go_roundw
          case rel => exact ⟨kk + 1, by omega, by go_num, by rw [HX.out, ← List.append_assoc]; exact HI9, Lib.hid (own_other HQ5.out HG9.out (own_type_ne HQ5.out HI5.out.own (by decide)))⟩
          case measure => simp [intOf]; omega
        · obtain rfl : kk = 6 := by omega
          have HI8 : Hid (WInv w wr g c (.slice A c.bodies.length k) u3 (fm c.numsF ++ ft c.txts)) := HI
          have hl1 := ft_len (l := c.txts) HT.out
          have HLN : Hid ((fm c.numsF ++ ft c.txts).length ≤ 10000) := Lib.hid (by have := HLF.out; rw [List.length_append]; change _ ≤ 265 * 6 at hl1; omega)
          have hz := HI8.out.bodies
          have hnl := numB_len' (n := c.bodies.length) (by omega)
          clear HI HQ HI7 HT6 hl1
          go_wp2_with fail
          refine (refNum_nat c.bodies.length _ (by omega)).mono ?_
          rintro e w5 ⟨v5, rfl, ho, hb5⟩
          obtain ⟨A2, c2, rfl, _, hr2⟩ := ho.form
          have HR2 := Lib.hid hr2
          have HI5 := Lib.hid (HI8.out.later hb5)
          clear ho hr2 hb5 HI8 hz
          go_wp2_with (at_builtin; refine print_append_row (w0 := w) w.heap.size rfl (.tmp 39) (.tmp 43) 30 5 .u8 1 rfl Tryd.underlying30 info_u8 (by omega) _ (fm c.numsF ++ ft c.txts) (numB c.bodies.length) A2 _ c2 rfl rfl HI5.out.own HR2.out.reads HI5.out.below HI5.out.below.size (by have := HLN.out; omega) ?_; intro v1 w9 hown hb9 hg9 hat9; have HI9 := Lib.hid (HI5.out.append hg9 hb9 hown); have HG9 := Lib.hid hg9; clear hown hb9 hg9 hat9)
          go_loopw [3, 8] (fun b i wr => ∃ (kk : Nat), kk ≤ c.bodies.length ∧ i = .int .i64 kk ∧ Hid (WInv w wr g c (.slice A c.bodies.length k) b (fm c.numsF ++ ft c.txts ++ numB c.bodies.length ++ ft (c.bodies.take kk)))) (fun _ i _ => c.bodies.length - (intOf i).toNat)
          case atStart => exact ⟨0, by omega, rfl, Lib.hid (by have := HI9.out; rwa [← List.append_nil (fm c.numsF ++ ft c.txts ++ numB c.bodies.length)] at this)⟩
          case round =>
            obtain ⟨kk, hk, rfl, HI⟩ := hrel
            have hz := HI.out.bodies
            by_cases hlt : (kk : Int) < (c.bodies.length : Int)
            · obtain ⟨x, hx⟩ : ∃ x, c.bodies[kk]? = some x := ⟨_, List.getElem?_eq_getElem (by omega)⟩
              obtain ⟨ad, x', rfl, hcell, hx'⟩ := cells_at (cells_C HC.out) HI.out.below (k := kk) (by rw [List.length_map]; omega)
              rw [List.getElem?_map, hx] at hx'
              cases hx'
              have hx2 := txtOk_iff (all_at HBD.out hx)
              have HX := Lib.hid (ft_snoc hx)
              have hl1 := ft_take_len (l := c.bodies) HBD.out kk
              have hl2 := txtB_len x (by omega)
              have HLN2 : Hid ((fm c.numsF ++ ft c.txts ++ numB c.bodies.length ++ ft (c.bodies.take kk)).length ≤ 20000 ∧ (txtB x).length ≤ 300) := Lib.hid ⟨by have := HLN.out; rw [List.length_append, List.length_append]; omega, by omega⟩
              clear hx hl1 hl2 HLN
              have HLN := HLN2
              go_wp2_with fail
              refine (refText_own x _ (by omega)).mono ?_
              rintro e w6 ⟨v5, rfl, ho, hb5⟩
              obtain ⟨A2, c2, rfl, _, hr2⟩ := ho.form
              have HR2 := Lib.hid hr2
              have HI5 := Lib.hid (HI.out.later hb5)
              clear ho hr2 hb5 HI hcell hz HI9 HG9
              go_wp2_with (at_builtin; refine print_append_row (w0 := w) w.heap.size rfl (.tmp 52) (.tmp 58) 30 5 .u8 1 rfl Tryd.underlying30 info_u8 (by omega) _ (fm c.numsF ++ ft c.txts ++ numB c.bodies.length ++ ft (c.bodies.take kk)) (txtB x) A2 _ c2 rfl rfl HI5.out.own HR2.out.reads HI5.out.below HI5.out.below.size (by have := HLN.out; omega) ?_; intro v1 w9 hown hb9 hg9 hat9; have HI9 := Lib.hid (HI5.out.append hg9 hb9 hown); have HG9 := Lib.hid hg9; clear hown hb9 hg9 hat9)
              go_roundw
              case rel => exact ⟨kk + 1, by omega, by go_num, by rw [HX.out, ← List.append_assoc]; exact HI9⟩
              case measure => simp [intOf]; omega
            · obtain rfl : kk = c.bodies.length := by omega
              go_wp2_with fail
              go_ret
              refine ⟨_, rfl, ?_, HI.out.below⟩
              have := HI.out.own
              rw [List.take_length, fm_numsF] at this
              exact this

end Go.Proofs.YtlgippliihgcjaaDoor.C
