/- CmdEnds. -/
import Derived.Test.YtlgippliihgcjaaDoorS4
import Derived.Test.YtlgippliihgcjaaDoorK1
import Derived.Test.YtlgippliihgcjaaDoorP2
import Derived.Test.YtlgippliihgcjaaDoorF1
import Derived.Test.YtlgippliihgcjaaDoorW1
import Derived.Test.YtlgippliihgcjaaDoorE3
namespace Go.Proofs.YtlgippliihgcjaaDoor.C
set_option linter.unusedVariables false
set_option linter.unusedSimpArgs false
open Go.RowKit Go.Proofs.YtlgippliihgcjaaDoorW.PrintWords Go.Proofs.YtlgippliihgcjaaDoorW.PrintLast

section
variable {P : Program} {ops : Array Oper} {rest : List Oper} {o : Oper} {a : Act} {Q : Exit → Act → World → Prop}
theorem slice_event {W : World} (hgd : o.guard = none) {N : Tmp} (_hd : o.dst = some N) {cs : Array Value} {t : TypeId} (n : Nat)
    (hrun : (execOp a.eval o).run P W = .ok (.value (.slice (some ⟨W.heap.size, 0, none⟩) n n)) (W.alloc (.cells cs t (0, 0))))
    (h : ∀ g, g = W.heap.size → ∀ w1, w1.heap[g]? = some (.cells cs t (0, 0)) → Below W.heap.size W w1 → wpList P ops Q rest (a.put o.dst (.slice (some ⟨g, 0, none⟩) n n)) w1) : wpList P ops Q (o :: rest) a W :=
  Kd.event_run hgd hrun (h _ rfl _ (blk_new W _) (below_alloc (Below.refl _ _) _))
end

theorem encB_len {c : Cm} (h : right c = true) : (encB c).length ≤ 10000 := by
  obtain ⟨h0, h1, hn, ht, hbl, hb⟩ := right_n h
  have l1 := fm_len hn
  have l2 := ft_len ht
  have l3 := ft_len hb
  have l4 := numB_len' (n := if c.fifo then 1 else 0) (by split <;> omega)
  have l5 := numB_len' (n := c.bodies.length) (by omega)
  change _ ≤ 9 * 10 at l1
  change _ ≤ 265 * 6 at l2
  unfold encB
  simp only [List.length_append]
  omega
/-- What the reader gives of bytes that are no command's. -/
theorem read_bad {A : Option Addr} {k : Nat} {bs : List Int} {w : World} (h : BRead w A bs) (hl : bs.length ≤ 70368744177664) (hby : Bytes bs) (hne : readCode bs ≠ 0) :
    Calls Tryd.prog 15 #[.slice A bs.length k] w fun e w' => (∃ A2 k2 ev a_, e = .returned (.tuple #[.agg #[.int .i64 0, .int .i64 0, .int .i64 0, .string ⟨#[]⟩, .int .i64 0, .int .i64 0, .int .i64 0, .int .i64 0, .int .i64 0, .string ⟨#[]⟩, .bool false, .string ⟨#[]⟩, .string ⟨#[]⟩, .string ⟨#[]⟩, .string ⟨#[]⟩, .slice A2 0 k2, .int .i64 0, .int .i64 0], ev]) ∧ ErrV w' w.heap.size ev a_ (readCode bs)) ∧ Below w.heap.size w w' := by
  refine (read_any A k bs w h hl hby).mono ?_
  rintro e w' ⟨⟨bv, ev, a_, rfl, he, hs⟩, hb⟩
  have hz : readCm bs = zeroCm := by unfold readCm; rw [if_neg hne]
  rw [hz] at hs ⊢
  obtain ⟨A2, k2, rfl, _, _⟩ := hs.form
  exact ⟨⟨A2, k2, ev, a_, rfl, he⟩, hb⟩

theorem one_range {w : World} {g : Nat} {a : Cm} {va : Value} {t : TypeId} (h : w.heap[g]? = some (.cells #[.int .i64 a.client, .int .i64 a.req, .int .i64 a.kind, .string a.queue, .int .i64 a.vis, .int .i64 a.ret, .int .i64 a.del, .int .i64 a.win, .int .i64 a.mx, .string a.dead, .bool a.fifo, .string a.body, .string a.group, .string a.key, .string a.receipt, va, .int .i64 a.n, .int .i64 a.m] t (0, 0))) : w.rangeAt g 0 (CellsOf [(a, va)]) := fun j v hj => by
  rw [Nat.zero_add]
  refine (blk_cell h j).trans ?_
  rw [← Array.getElem?_toList]
  exact hj

set_option maxHeartbeats 16000000 in
set_option maxRecDepth 100000 in
theorem ends_any (c : Cm) (A : Option Addr) (k : Nat) (cut more : Int) (w : World) (hC : Kd.string.C w A c.bodies.length c.bodies) (hm : 0 ≤ more ∧ more < 256)
    (hgl : w.cell? ⟨0, 0, none⟩ = some (.iface 154 (.agg #[.pointer (some ⟨1, 32, none⟩)]))) :
    Calls Tryd.prog 5 #[.agg #[.int .i64 c.client, .int .i64 c.req, .int .i64 c.kind, .string c.queue, .int .i64 c.vis, .int .i64 c.ret, .int .i64 c.del, .int .i64 c.win, .int .i64 c.mx, .string c.dead, .bool c.fifo, .string c.body, .string c.group, .string c.key, .string c.receipt, .slice A c.bodies.length k, .int .i64 c.n, .int .i64 c.m], .int .i64 cut, .int .u8 more] w fun e w' => e = .returned (.bool true) ∧ Below w.heap.size w w' := by
  have HC := Lib.hid hC
  have HG := Lib.hid hgl
  clear hC hgl
  go_enter Tryd.func5, Tryd.ntmps5
  go_wp2_with (first
    | ((with_reducible refine gate_dst (N := 3) rfl ?_); refine box_event ?hg (N := 3) ?hd (cs := #[.int .i64 c.client, .int .i64 c.req, .int .i64 c.kind, .string c.queue, .int .i64 c.vis, .int .i64 c.ret, .int .i64 c.del, .int .i64 c.win, .int .i64 c.mx, .string c.dead, .bool c.fifo, .string c.body, .string c.group, .string c.key, .string c.receipt, .slice A c.bodies.length k, .int .i64 c.n, .int .i64 c.m]) (t := 26) ?hr ?_; (case hd => rfl); (case hg => rfl); (case hr => first | (go_simp; done) | (go_simp; rfl)); intro g2 hg2 w2 hbox2 hb2; have HG2 := Lib.hid hg2; have HB2 := Lib.hid hb2; have HX2 := Lib.hid hbox2; clear hg2 hbox2 hb2)
    | ((with_reducible refine gate_dst (N := 13) rfl ?_); refine wpList_load_row rfl 26 (.tmp 3) rfl g2 rfl 26 #[.int .i64 c.client, .int .i64 c.req, .int .i64 c.kind, .string c.queue, .int .i64 c.vis, .int .i64 c.ret, .int .i64 c.del, .int .i64 c.win, .int .i64 c.mx, .string c.dead, .bool c.fifo, .string c.body, .string c.group, .string c.key, .string c.receipt, .slice A c.bodies.length k, .int .i64 c.n, .int .i64 c.m] (0, 0) _ HX2.out Tryd.underlying26 rfl (by kernel_rfl) ?_)
    | ((with_reducible refine gate_dst (N := 14) rfl ?_); refine slice_event ?hg (N := 14) ?hd (cs := #[.int .i64 c.client, .int .i64 c.req, .int .i64 c.kind, .string c.queue, .int .i64 c.vis, .int .i64 c.ret, .int .i64 c.del, .int .i64 c.win, .int .i64 c.mx, .string c.dead, .bool c.fifo, .string c.body, .string c.group, .string c.key, .string c.receipt, .slice A c.bodies.length k, .int .i64 c.n, .int .i64 c.m]) (t := 26) 1 ?hr ?_; (case hd => rfl); (case hg => rfl); (case hr => first | (go_simp; done) | (go_simp; rfl)); intro g4 hg4 w4 hbox4 hb4; have HG4 := Lib.hid hg4; have HB4 := Lib.hid hb4; have HX4 := Lib.hid hbox4; clear hg4 hbox4 hb4))
  have hfew := few_any [(c, .slice A c.bodies.length k)] g4 1 w4 (one_range HX4.out) (by
    intro c' bv h
    have hA4 := Kd.C_below (Kd.C_below HC.out HB2.out) HB4.out
    simp only [List.mem_cons, List.not_mem_nil, or_false, Prod.mk.injEq] at h
    obtain ⟨rfl, rfl⟩ := h
    exact ⟨A, k, rfl, hA4⟩)
  refine hfew.mono ?_
  clear hfew
  rintro e w5 ⟨⟨q, rfl⟩, hb5⟩
  have HBB := Lib.hid ((HB2.out.trans (HB4.out.mono HB2.out.size)).trans (hb5.mono (Nat.le_trans HB2.out.size HB4.out.size)))
  have HXa := Lib.hid ((hb5.block g2 (Nat.lt_of_lt_of_le (blk_lt HX2.out) HB4.out.size)).trans ((HB4.out.block g2 (blk_lt HX2.out)).trans HX2.out))
  have HC5 := Lib.hid (Kd.C_below HC.out HBB.out)
  clear hb5 HC HX2 HX4 HB2 HB4 HG2 HG4
  cases q with
  | false =>
    go_wp2_with fail
    refine (awake_any _).mono ?_
    rintro e w6 ⟨rfl, hb6⟩
    have HB6 := Lib.hid (HBB.out.trans (hb6.mono HBB.out.size))
    clear hb6
    go_wp2_with fail
    go_ret
    exact ⟨rfl, HB6.out⟩
  | true =>
    go_wp2_with ((with_reducible refine gate_dst (N := 19) rfl ?_); refine wpList_load_row rfl 26 (.tmp 3) rfl g2 rfl 26 #[.int .i64 c.client, .int .i64 c.req, .int .i64 c.kind, .string c.queue, .int .i64 c.vis, .int .i64 c.ret, .int .i64 c.del, .int .i64 c.win, .int .i64 c.mx, .string c.dead, .bool c.fifo, .string c.body, .string c.group, .string c.key, .string c.receipt, .slice A c.bodies.length k, .int .i64 c.n, .int .i64 c.m] (0, 0) _ HXa.out Tryd.underlying26 rfl (by kernel_rfl) ?_)
    cases hra : right c with
    | false =>
      refine (write_no c A k _ HC5.out hra).mono ?_
      rintro e w6 ⟨v, rfl, ⟨be, rfl, _, _⟩, hb6⟩
      have HB6 := Lib.hid (HBB.out.trans (hb6.mono HBB.out.size))
      clear hb6 HXa HC5 HBB hra
      go_wp2_with fail
      refine (awake_any _).mono ?_
      rintro e w8 ⟨rfl, hb8⟩
      have HB8 := Lib.hid (HB6.out.trans (hb8.mono HB6.out.size))
      clear hb8
      go_wp2_with fail
      go_ret
      exact ⟨rfl, HB8.out⟩
    | true =>
      refine (write_yes c A k _ HC5.out hra).mono ?_
      rintro e w6 ⟨v, rfl, ho6, hb6⟩
      obtain ⟨A6, k6, rfl, hk6, hr6⟩ := ho6.form
      have HO6 := Lib.hid hr6
      have HB6 := Lib.hid (HBB.out.trans (hb6.mono HBB.out.size))
      have HRA := Lib.hid hra
      obtain ⟨n, hn⟩ : ∃ n, n = (encB c).length := ⟨_, rfl⟩
      rw [← hn]
      have HN := Lib.hid hn
      rw [← hn] at hk6
      clear hb6 HXa HC5 HBB hra ho6 hr6 hn
      by_cases hc0 : cut < 0
      · go_wp2_with fail
        refine (awake_any _).mono ?_
        rintro e w8 ⟨rfl, hb8⟩
        have HB8 := Lib.hid (HB6.out.trans (hb8.mono HB6.out.size))
        clear hb8
        go_wp2_with fail
        go_ret
        exact ⟨rfl, HB8.out⟩
      · by_cases hc1 : (n : Int) ≤ cut
        · go_wp2_with fail
          refine (awake_any _).mono ?_
          rintro e w8 ⟨rfl, hb8⟩
          have HB8 := Lib.hid (HB6.out.trans (hb8.mono HB6.out.size))
          clear hb8
          go_wp2_with fail
          go_ret
          exact ⟨rfl, HB8.out⟩
        · obtain ⟨q, rfl⟩ := Int.eq_ofNat_of_zero_le (Int.not_lt.1 hc0)
          have hqn : (q : Int) < (n : Int) := by omega
          clear hc0 hc1
          have hb6s := HB6.out.size
          have htl : ((encB c).take q).length = q := by rw [List.length_take, ← HN.out]; omega
          have hcode : readCode ((encB c).take q) = 3 := read_cut HRA.out (List.take_append_drop q (encB c)).symm (by intro h; have := List.drop_eq_nil_iff.1 h; rw [← HN.out] at this; omega)
          have hn10 := encB_len HRA.out
          rw [← HN.out] at hn10
          have hRD := Lib.hid (read_bad (k := k6) (Kd.C_take HO6.out (by rw [← HN.out]; omega) : BRead w6 A6 ((encB c).take q)) (by omega) (fun x hx => encB_bytes c x (List.mem_of_mem_take hx)) (by rw [hcode]; decide))
          rw [htl, hcode] at hRD
          clear htl hcode
          go_wp2_with fail
          refine hRD.out.mono ?_
          rintro e w7 ⟨⟨A7, k7, ev7, p7, rfl, he7⟩, hb7⟩
          have HB7 := Lib.hid (HB6.out.trans (hb7.mono HB6.out.size))
          have HO7 := Lib.hid (HO6.out.below hb7)
          rcases he7 with ⟨h7, _⟩ | ⟨_, b7, rfl, _, hf7⟩
          · exact absurd h7 (by decide)
          have HF7 := Lib.hid hf7
          have hs7 := HB7.out.size
          clear hb7 hRD hf7
          go_wp2_with (first
            | ((with_reducible refine gate_dst (N := 9) rfl ?_); refine box_event ?hg (N := 9) ?hd (cs := #[.int .i64 0, .int .i64 0, .int .i64 0, .string ⟨#[]⟩, .int .i64 0, .int .i64 0, .int .i64 0, .int .i64 0, .int .i64 0, .string ⟨#[]⟩, .bool false, .string ⟨#[]⟩, .string ⟨#[]⟩, .string ⟨#[]⟩, .string ⟨#[]⟩, .slice none 0 0, .int .i64 0, .int .i64 0]) (t := 26) ?hr ?_; (case hd => rfl); (case hg => rfl); (case hr => first | (go_simp; done) | (go_simp; rfl)); intro g9 hg9 wa hxa hba; have HGa := Lib.hid hg9; have HBa := Lib.hid hba; have HXa := Lib.hid hxa; clear hg9 hxa hba)
            | (refine store_event rfl 26 (.tmp 9) (.tmp 41) rfl g9 #[.int .i64 0, .int .i64 0, .int .i64 0, .string ⟨#[]⟩, .int .i64 0, .int .i64 0, .int .i64 0, .int .i64 0, .int .i64 0, .string ⟨#[]⟩, .bool false, .string ⟨#[]⟩, .string ⟨#[]⟩, .string ⟨#[]⟩, .string ⟨#[]⟩, .slice A7 0 k7, .int .i64 0, .int .i64 0] rfl rfl 26 #[.int .i64 0, .int .i64 0, .int .i64 0, .string ⟨#[]⟩, .int .i64 0, .int .i64 0, .int .i64 0, .int .i64 0, .int .i64 0, .string ⟨#[]⟩, .bool false, .string ⟨#[]⟩, .string ⟨#[]⟩, .string ⟨#[]⟩, .string ⟨#[]⟩, .slice none 0 0, .int .i64 0, .int .i64 0] HXa.out (by kernel_rfl) rfl (by kernel_rfl) ?_; intro wb hxb hsb; have HWb := Lib.hid (HBa.out.trans (hsb.2 w7.heap.size (by have := HGa.out; omega))); have HBb := Lib.hid (HB7.out.trans (HWb.out.mono HB7.out.size)); have HFb := Lib.hid ((HWb.out.block b7 (blk_lt HF7.out)).trans HF7.out); have HOb := Lib.hid (HO7.out.below HWb.out); have hsB := HBb.out.size; have HRb : Hid (∀ W, Below wb.heap.size wb W → ReadsInt W .u8 A6 n (encB c)) := Lib.hid (fun W hb => by rw [HN.out]; exact (HOb.out.below hb).reads); clear hxb hsb)
            | (at_builtin; refine print_append_row (w0 := w) w.heap.size rfl (.tmp 44) (.tmp 45) 30 5 .u8 1 rfl Tryd.underlying30 info_u8 (by omega) (.slice (some ⟨wb.heap.size, 0, none⟩) 0 0) [] (encB c) A6 _ k6 rfl rfl ?hO ?hR ?hB ?hS (by simp; omega) ?_; (case hO => exact own_lit_at _ _ _ _ .u8 [] rfl hsB (by simp)); (case hR => exact HRb.out _ (below_alloc (Below.refl _ _) _)); (case hB => exact below_alloc HBb.out _); (case hS => simp; omega); intro v8 w8 hown hb8 hg8 hat8; have HO8 := Lib.hid hown; have HB8 := Lib.hid hb8; have HF8 := Lib.hid (blk_grown ((below_alloc (Below.refl wb.heap.size wb) _).block b7 (blk_lt HFb.out) |>.trans HFb.out) hg8 (by have := blk_lt HFb.out; simp [Value.ownBlock]; omega)); clear hown hb8 hg8 hat8)
            | (at_builtin; refine print_append_num (w0 := w) w.heap.size rfl (.tmp 46) (.tmp 48) 30 5 .u8 1 rfl Tryd.underlying30 info_u8 (by omega) _ ([] ++ encB c) more rfl rfl HO8.out HB8.out HB8.out.size (by simp; have := HN.out; omega) ?_; intro v9 w9 hown hb9 hg9 hat9; have HO9 := Lib.hid hown; have HB9 := Lib.hid hb9; have HF9 := Lib.hid (blk_grown HF8.out hg9 (own_ne HO8.out HF8.out (by decide))); clear hown hb9 hg9 hat9))
          obtain ⟨A9, k9, rfl, _, hr9⟩ := BOwn.form (bs := [] ++ encB c ++ [more]) HO9.out
          have hcode9 : readCode ([] ++ encB c ++ [more]) = 2 := by rw [List.nil_append]; exact read_more HRA.out (by simp)
          have hby9 : Bytes ([] ++ encB c ++ [more]) := by
            rw [List.nil_append]
            exact (encB_bytes c).append (fun x hx => by rw [List.mem_singleton] at hx; rw [hx]; exact hm)
          have hRD9 := read_bad (k := k9) hr9 (by rw [List.nil_append, List.length_append, ← HN.out]; simp; omega) hby9 (by rw [hcode9]; decide)
          rw [hcode9] at hRD9
          have HRD9 := Lib.hid hRD9
          clear hr9 hcode9 hby9 hRD9 HO8 HO9 HO7 HOb HRb HFb HF8 HF7 HB8 HBb HWb HBa HGa HXa
          refine HRD9.out.mono ?_
          rintro e w10 ⟨⟨A10, k10, ev10, p10, rfl, he10⟩, hb10⟩
          have HE10 := Lib.hid he10
          have HF10 := Lib.hid ((hb10.block b7 (blk_lt HF9.out)).trans HF9.out)
          have HB10 := Lib.hid (HB9.out.trans (hb10.mono HB9.out.size))
          clear he10 hb10 HRD9 HF9 HB9
          go_wp2_with (first
            | ((with_reducible refine gate_dst (N := 11) rfl ?_); refine box_event ?hg (N := 11) ?hd (cs := #[.int .i64 0, .int .i64 0, .int .i64 0, .string ⟨#[]⟩, .int .i64 0, .int .i64 0, .int .i64 0, .int .i64 0, .int .i64 0, .string ⟨#[]⟩, .bool false, .string ⟨#[]⟩, .string ⟨#[]⟩, .string ⟨#[]⟩, .string ⟨#[]⟩, .slice none 0 0, .int .i64 0, .int .i64 0]) (t := 26) ?hr ?_; (case hd => rfl); (case hg => rfl); (case hr => first | (go_simp; done) | (go_simp; rfl)); intro g11 hg11 wc hxc hbc; have HGc := Lib.hid hg11; have HBc := Lib.hid hbc; have HXc := Lib.hid hxc; clear hg11 hxc hbc)
            | (refine store_event rfl 26 (.tmp 11) (.tmp 51) rfl g11 #[.int .i64 0, .int .i64 0, .int .i64 0, .string ⟨#[]⟩, .int .i64 0, .int .i64 0, .int .i64 0, .int .i64 0, .int .i64 0, .string ⟨#[]⟩, .bool false, .string ⟨#[]⟩, .string ⟨#[]⟩, .string ⟨#[]⟩, .string ⟨#[]⟩, .slice A10 0 k10, .int .i64 0, .int .i64 0] rfl rfl 26 #[.int .i64 0, .int .i64 0, .int .i64 0, .string ⟨#[]⟩, .int .i64 0, .int .i64 0, .int .i64 0, .int .i64 0, .int .i64 0, .string ⟨#[]⟩, .bool false, .string ⟨#[]⟩, .string ⟨#[]⟩, .string ⟨#[]⟩, .string ⟨#[]⟩, .slice none 0 0, .int .i64 0, .int .i64 0] HXc.out (by kernel_rfl) rfl (by kernel_rfl) ?_; intro wd hxd hsd; have HWd := Lib.hid (HBc.out.trans (hsd.2 w10.heap.size (by have := HGc.out; omega))); have HBd := Lib.hid (HB10.out.trans (HWd.out.mono HB10.out.size)); have HFd := Lib.hid ((HWd.out.block b7 (blk_lt HF10.out)).trans HF10.out); have HEd := Lib.hid (HE10.out.below HWd.out); clear hxd hsd HBc HXc HGc HWd))
          refine (code_any 0 _ p7 3 _ (.inr ⟨by decide, b7, rfl, Nat.zero_le _, HFd.out⟩) (pw_cell_below HBd.out HG.out)).mono ?_
          rintro e w11 ⟨rfl, hb11⟩
          have HB11 := Lib.hid (HBd.out.trans (hb11.mono HBd.out.size))
          have HE11 := Lib.hid (HEd.out.below hb11)
          clear hb11 HEd HFd
          go_wp2_with fail
          refine (code_any _ _ p10 2 _ HE11.out (pw_cell_below HB11.out HG.out)).mono ?_
          rintro e w12 ⟨rfl, hb12⟩
          have HB12 := Lib.hid (HB11.out.trans (hb12.mono HB11.out.size))
          clear hb12
          go_wp2_with fail
          refine (awake_any _).mono ?_
          rintro e w13 ⟨rfl, hb13⟩
          have HB13 := Lib.hid (HB12.out.trans (hb13.mono HB12.out.size))
          clear hb13
          go_wp2_with fail
          go_ret
          exact ⟨rfl, HB13.out⟩
end Go.Proofs.YtlgippliihgcjaaDoor.C
