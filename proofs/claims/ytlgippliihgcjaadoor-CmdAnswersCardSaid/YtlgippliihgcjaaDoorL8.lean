/- CmdAnswers. -/
import Derived.Test.YtlgippliihgcjaaDoorTC
import Derived.Test.YtlgippliihgcjaaDoorL7
namespace Go.Proofs.YtlgippliihgcjaaDoor.C
set_option linter.unusedVariables false
set_option linter.unusedSimpArgs false
open Go.RowKit Go.Proofs.YtlgippliihgcjaaDoorW.PrintWords Go.Proofs.YtlgippliihgcjaaDoorW.PrintLast
attribute [local go_sem ↓] loadAt_ldA loadAt_ldB

theorem encA_le {a : An} (h : rightA a = true) : (encA a).length ≤ 20000 := by
  obtain ⟨hc, hl1, hl2, hi, ht⟩ := rightA_n h
  obtain ⟨hc0, hc1⟩ := numOk_iff hc
  have h1 := numB_len' (n := a.code.toNat) (by omega)
  have h2 := fm_len hi
  have h3 := numB_len' (n := a.ids.length) (by omega)
  have h4 := numB_len' (n := a.took.length) (by omega)
  have h5 := tksB_len ht
  unfold encA rowB
  simp only [List.length_append]
  omega

set_option maxHeartbeats 16000000 in
set_option maxRecDepth 100000 in
theorem answers_any (a : An) (A1 A2 : Option Addr) (k1 k2 : Nat) (w : World) (hI : IRead w A1 a.ids) (hT : TRead w A2 a.took)
    (hgl : w.cell? ⟨0, 0, none⟩ = some (.iface 154 (.agg #[.pointer (some ⟨1, 32, none⟩)]))) :
    Calls Tryd.prog 7 #[.agg #[.int .i64 a.code, .slice A1 a.ids.length k1, .slice A2 a.took.length k2]] w fun e w' => e = .returned (.bool true) ∧ Below w.heap.size w w' := by
  have HI := Lib.hid hI
  have HT0 := Lib.hid hT
  have HG := Lib.hid hgl
  clear hI hT hgl
  by_cases h1 : 30 < a.ids.length
  · have d1 : decide ((30 : Int) < (a.ids.length : Int)) = true := decide_eq_true (by omega)
    have d1' : decide (30 < a.ids.length) = true := decide_eq_true h1
    go_enter Tryd.func7, Tryd.ntmps7
    go_wp2_with fail
    have HBx := Lib.hid (below_alloc (Below.refl w.heap.size w) (.cells #[.int .i64 a.code, .slice A1 a.ids.length k1, .slice A2 a.took.length k2] 56))
    refine (awake_any _).mono ?_
    rintro e w6 ⟨rfl, hb6⟩
    have HB6 := Lib.hid (HBx.out.trans (hb6.mono HBx.out.size))
    clear hb6
    go_wp2_with fail
    go_ret
    exact ⟨rfl, HB6.out⟩
  · by_cases h2 : 30 < a.took.length
    · have d1 : decide ((30 : Int) < (a.ids.length : Int)) = false := decide_eq_false (by omega)
      have d1' : decide (30 < a.ids.length) = false := decide_eq_false h1
      have d2 : decide ((30 : Int) < (a.took.length : Int)) = true := decide_eq_true (by omega)
      have d2' : decide (30 < a.took.length) = true := decide_eq_true h2
      go_enter Tryd.func7, Tryd.ntmps7
      go_wp2_with fail
      have HBx := Lib.hid (below_alloc (Below.refl w.heap.size w) (.cells #[.int .i64 a.code, .slice A1 a.ids.length k1, .slice A2 a.took.length k2] 56))
      refine (awake_any _).mono ?_
      rintro e w6 ⟨rfl, hb6⟩
      have HB6 := Lib.hid (HBx.out.trans (hb6.mono HBx.out.size))
      clear hb6
      go_wp2_with fail
      go_ret
      exact ⟨rfl, HB6.out⟩
    · have d1 : decide ((30 : Int) < (a.ids.length : Int)) = false := decide_eq_false (by omega)
      have d1' : decide (30 < a.ids.length) = false := decide_eq_false h1
      have d2 : decide ((30 : Int) < (a.took.length : Int)) = false := decide_eq_false (by omega)
      have d2' : decide (30 < a.took.length) = false := decide_eq_false h2
      have hs1 : a.ids.length ≤ 1000 := by omega
      have hs2 : a.took.length ≤ 1000 := by omega
      go_enter Tryd.func7, Tryd.ntmps7
      go_wp2_with fail
      have hx1 := heap_alloc_new w (.cells #[.int .i64 a.code, .slice A1 a.ids.length k1, .slice A2 a.took.length k2] 56)
      have hb1 := below_alloc (Below.refl w.heap.size w) (.cells #[.int .i64 a.code, .slice A1 a.ids.length k1, .slice A2 a.took.length k2] 56)
      generalize w.alloc (.cells #[.int .i64 a.code, .slice A1 a.ids.length k1, .slice A2 a.took.length k2] 56) = w1 at hx1 hb1 ⊢
      obtain ⟨g1, hg1⟩ : ∃ g1, w.heap.size = g1 := ⟨_, rfl⟩
      rw [hg1] at hx1 ⊢
      have HX1 := Lib.hid hx1
      have HB1 := Lib.hid hb1
      have HG1 := Lib.hid hg1
      clear hx1 hb1 hg1 d1 d1' d2 d2'
      go_loopw [25] (fun i wr => ∃ kk : Nat, kk ≤ a.took.length ∧ i = .int .i64 kk ∧ Below w1.heap.size w1 wr) (fun i _ => a.took.length - (intOf i).toNat)
      case atStart => exact ⟨0, by omega, rfl, Below.refl _ _⟩
      case round =>
        obtain ⟨kk, hk, rfl, hb⟩ := hrel
        have HBr := Lib.hid (HB1.out.trans (hb.mono HB1.out.size))
        have HXr := Lib.hid ((hb.block g1 (blk_lt HX1.out)).trans HX1.out)
        have HBB := Lib.hid hb
        clear hb
        by_cases hlt : (kk : Int) < (a.took.length : Int)
        · obtain ⟨t, ht⟩ : ∃ t, a.took[kk]? = some t := ⟨_, List.getElem?_eq_getElem (by omega)⟩
          obtain ⟨ad, rfl, c0, c1, c2, c3, c4⟩ := TRead.at_ (Kd.C_below HT0.out HBr.out) ht
          clear ht
          go_wp2_with fail
          all_goals first
            | (refine (awake_any _).mono ?_
               rintro e w6 ⟨rfl, hb6⟩
               have HB5 := Lib.hid (below_alloc HBr.out (.cells #[.int .i64 t.id, .int .i64 t.count, .string t.receipt, .string t.body, .string t.group] 68))
               have HB6 := Lib.hid (HB5.out.trans (hb6.mono HB5.out.size))
               clear hb6
               go_wp2_with fail
               go_ret
               exact ⟨rfl, HB6.out⟩)
            | (go_roundw
               case rel => exact ⟨kk + 1, by omega, by go_num, below_alloc HBB.out _⟩
               case measure => simp [intOf]; omega)
        · obtain rfl : kk = a.took.length := by omega
          have HIr := Lib.hid (Kd.C_below HI.out HBr.out)
          have HTr := Lib.hid (Kd.C_below HT0.out HBr.out)
          have l0 := ldB_of HXr.out
          clear HX1 HB1 HBB
          go_wp2_with fail
          cases hra : rightA a with
          | false =>
            refine (writeA_no a A1 A2 k1 k2 _ HIr.out HTr.out hra).mono ?_
            rintro e w7 ⟨v, rfl, he7, hb7⟩
            have HE7 := Lib.hid he7
            have HB7 := Lib.hid (HBr.out.trans (hb7.mono HBr.out.size))
            have HX7 := Lib.hid ((hb7.block g1 (blk_lt HXr.out)).trans HXr.out)
            have HI7 := Lib.hid (Kd.C_below HIr.out hb7)
            have HT7 := Lib.hid (Kd.C_below HTr.out hb7)
            have HRA := Lib.hid hra
            clear hb7 he7 hra HXr HBr HIr HTr l0
            have l0 := ldB_of HX7.out
            go_wp2_with fail
            refine (lanswer_any a A1 A2 k1 k2 _ HT7.out hs2).mono ?_
            rintro e w8 ⟨v8, rfl, ho8, hb8⟩
            obtain ⟨B2, m2, rfl, _, hr8⟩ := TOwn.form ho8
            have HR8 := Lib.hid hr8
            have HE8 := Lib.hid (HE7.out.below hb8)
            have HB8 := Lib.hid (HB7.out.trans (hb8.mono HB7.out.size))
            have HX8 := Lib.hid ((hb8.block g1 (blk_lt HX7.out)).trans HX7.out)
            have HI8 := Lib.hid (Kd.C_below HI7.out hb8)
            have HT8 := Lib.hid (Kd.C_below HT7.out hb8)
            clear ho8 hr8 hb8 HX7 HI7 HT7 HB7 HE7 l0
            go_wp2_with (first
        | ((with_reducible refine gate_dst (N := 7) rfl ?_); refine box_event ?hg (N := 7) ?hd (cs := #[.int .i64 0, .slice none 0 0, .slice none 0 0]) (t := 61) ?hr ?_; (case hd => rfl); (case hg => rfl); (case hr => first | (go_simp; done) | (go_simp; rfl)); intro g7 hg7 wa hxa hba; have HG7 := Lib.hid hg7; have HXa := Lib.hid hxa; have HBa := Lib.hid hba; clear hg7 hxa hba)
        | (refine store_event rfl 61 (.tmp 7) (.tmp 49) rfl g7 #[.int .i64 a.code, .slice A1 a.ids.length k1, .slice B2 a.took.length m2] rfl rfl 61 #[.int .i64 0, .slice none 0 0, .slice none 0 0] HXa.out (ran_info _ _ _) rfl (an_one _ _ _ _ _ _ _) ?_; intro wb hxb hsb; have HWb := Lib.hid (HBa.out.trans (hsb.2 w8.heap.size (by have := HG7.out; omega))); have HT : Hid (TwoA w wb g1 g7 a A1 A2 A1 B2 k1 k2 k1 m2) := Lib.hid ⟨(HWb.out.block g1 (blk_lt HX8.out)).trans HX8.out, hxb, Kd.C_below HI8.out HWb.out, Kd.C_below HT8.out HWb.out, Kd.C_below HI8.out HWb.out, Kd.C_below HR8.out HWb.out, HB8.out.trans (HWb.out.mono HB8.out.size)⟩; have HEb := Lib.hid (HE8.out.below HWb.out); have m1_ := ldA_of HT.out.y; clear hxb hsb HXa HBa HG7 HWb))
            clear HX8 HI8 HT8 HB8 HR8 HE8
            refine (trA_any a A1 B2 k1 m2 _ HT.out.b1 HT.out.b2).mono ?_
            rintro e w9 ⟨rfl, hb9⟩
            rw [HRA.out]
            have HT9 := Lib.hid (HT.out.later hb9)
            have HE9 := Lib.hid (HEb.out.below hb9)
            clear hb9 HT HEb m1_
            have l1 := ldB_of HT9.out.x
            go_wp2_with fail
            refine (rightA_any a A1 A2 k1 k2 _ HT9.out.a1 HT9.out.a2).mono ?_
            rintro e w10 ⟨rfl, hb10⟩
            rw [HRA.out]
            have HT10 := Lib.hid (HT9.out.later hb10)
            have HE10 := Lib.hid (HE9.out.below hb10)
            clear hb10 HT9 HE9 l1
            go_wp2_with fail
            refine (code_any _ _ 0 1 _ (.inr ⟨by decide, HE10.out⟩) (pw_cell_below HT10.out.below HG.out)).mono ?_
            rintro e w11 ⟨rfl, hb11⟩
            have HB11 := Lib.hid (HT10.out.below.trans (hb11.mono HT10.out.below.size))
            clear hb11
            go_wp2_with fail
            refine (awake_any _).mono ?_
            rintro e w6 ⟨rfl, hb6⟩
            have HB6 := Lib.hid (HB11.out.trans (hb6.mono HB11.out.size))
            clear hb6
            go_wp2_with fail
            go_ret
            exact ⟨rfl, HB6.out⟩
          | true =>
            refine (writeA_yes a A1 A2 k1 k2 _ HIr.out HTr.out hra).mono ?_
            rintro e w7 ⟨v, rfl, ho7, hb7⟩
            obtain ⟨A6, k6, rfl, _, hr7⟩ := BOwn.form ho7
            have HO7 := Lib.hid hr7
            have HB7 := Lib.hid (HBr.out.trans (hb7.mono HBr.out.size))
            have HX7 := Lib.hid ((hb7.block g1 (blk_lt HXr.out)).trans HXr.out)
            have HI7 := Lib.hid (Kd.C_below HIr.out hb7)
            have HT7 := Lib.hid (Kd.C_below HTr.out hb7)
            have HRA := Lib.hid hra
            clear hb7 ho7 hr7 hra HXr HBr HIr HTr l0
            have l0 := ldB_of HX7.out
            go_wp2_with fail
            refine (lanswer_any a A1 A2 k1 k2 _ HT7.out hs2).mono ?_
            rintro e w8 ⟨v8, rfl, ho8, hb8⟩
            obtain ⟨B2, m2, rfl, _, hr8⟩ := TOwn.form ho8
            have HR8 := Lib.hid hr8
            have HO8 := Lib.hid (HO7.out.below hb8)
            have HB8 := Lib.hid (HB7.out.trans (hb8.mono HB7.out.size))
            have HX8 := Lib.hid ((hb8.block g1 (blk_lt HX7.out)).trans HX7.out)
            have HI8 := Lib.hid (Kd.C_below HI7.out hb8)
            have HT8 := Lib.hid (Kd.C_below HT7.out hb8)
            clear ho8 hr8 hb8 HX7 HI7 HT7 HB7 HO7 l0
            go_wp2_with (first
        | ((with_reducible refine gate_dst (N := 7) rfl ?_); refine box_event ?hg (N := 7) ?hd (cs := #[.int .i64 0, .slice none 0 0, .slice none 0 0]) (t := 61) ?hr ?_; (case hd => rfl); (case hg => rfl); (case hr => first | (go_simp; done) | (go_simp; rfl)); intro g7 hg7 wa hxa hba; have HG7 := Lib.hid hg7; have HXa := Lib.hid hxa; have HBa := Lib.hid hba; clear hg7 hxa hba)
        | (refine store_event rfl 61 (.tmp 7) (.tmp 49) rfl g7 #[.int .i64 a.code, .slice A1 a.ids.length k1, .slice B2 a.took.length m2] rfl rfl 61 #[.int .i64 0, .slice none 0 0, .slice none 0 0] HXa.out (ran_info _ _ _) rfl (an_one _ _ _ _ _ _ _) ?_; intro wb hxb hsb; have HWb := Lib.hid (HBa.out.trans (hsb.2 w8.heap.size (by have := HG7.out; omega))); have HT : Hid (TwoA w wb g1 g7 a A1 A2 A1 B2 k1 k2 k1 m2) := Lib.hid ⟨(HWb.out.block g1 (blk_lt HX8.out)).trans HX8.out, hxb, Kd.C_below HI8.out HWb.out, Kd.C_below HT8.out HWb.out, Kd.C_below HI8.out HWb.out, Kd.C_below HR8.out HWb.out, HB8.out.trans (HWb.out.mono HB8.out.size)⟩; have HOb := Lib.hid (HO8.out.below HWb.out); have m1_ := ldA_of HT.out.y; clear hxb hsb HXa HBa HG7 HWb))
            clear HX8 HI8 HT8 HB8 HR8 HO8
            refine (trA_any a A1 B2 k1 m2 _ HT.out.b1 HT.out.b2).mono ?_
            rintro e w9 ⟨rfl, hb9⟩
            rw [HRA.out]
            have HT9 := Lib.hid (HT.out.later hb9)
            have HO9 := Lib.hid (HOb.out.below hb9)
            clear hb9 HT HOb m1_
            have l1 := ldB_of HT9.out.x
            go_wp2_with fail
            refine (rightA_any a A1 A2 k1 k2 _ HT9.out.a1 HT9.out.a2).mono ?_
            rintro e w10 ⟨rfl, hb10⟩
            rw [HRA.out]
            have HT10 := Lib.hid (HT9.out.later hb10)
            have HO10 := Lib.hid (HO9.out.below hb10)
            clear hb10 HT9 HO9 l1
            have hRd := readA_any A6 k6 (encA a) w10 HO10.out (by have := encA_le HRA.out; omega) (encA_bytes a)
            rw [(ans_enc HRA.out).1, (ans_enc HRA.out).2.1] at hRd
            have HRD := Lib.hid hRd
            clear hRd
            go_wp2_with fail
            refine HRD.out.mono ?_
            rintro e w11 ⟨⟨iv, tv, ev, a_, rfl, he, hi, ht⟩, hb11⟩
            have hev := errV_zero he
            subst hev
            obtain ⟨C1, n1, rfl, _, hC1⟩ := IOwn.form hi
            obtain ⟨C2, n2, rfl, _, hC2⟩ := TOwn.form ht
            have HC1 := Lib.hid hC1
            have HC2 := Lib.hid hC2
            have HT11 := Lib.hid (HT10.out.later hb11)
            have HO11 := Lib.hid (HO10.out.below hb11)
            clear he hi ht hC1 hC2 hb11 HRD HT10 HO10
            go_wp2_with (first
              | ((with_reducible refine gate_dst (N := 9) rfl ?_); refine box_event ?hg (N := 9) ?hd (cs := #[.int .i64 0, .slice none 0 0, .slice none 0 0]) (t := 56) ?hr ?_; (case hd => rfl); (case hg => rfl); (case hr => first | (go_simp; done) | (go_simp; rfl)); intro g9 hg9 wa hxa hba; have HG9 := Lib.hid hg9; have HXa := Lib.hid hxa; have HBa := Lib.hid hba; clear hg9 hxa hba)
              | (refine store_event rfl 56 (.tmp 9) (.tmp 72) rfl g9 #[.int .i64 a.code, .slice C1 a.ids.length n1, .slice C2 a.took.length n2] rfl rfl 56 #[.int .i64 0, .slice none 0 0, .slice none 0 0] HXa.out (an_info _ _ _) rfl (an_one _ _ _ _ _ _ _) ?_; intro wd hxd hsd; have HWd := Lib.hid (HBa.out.trans (hsd.2 w11.heap.size (by have := HG9.out; omega))); have HT12 := Lib.hid (HT11.out.later HWd.out); have HX9 := Lib.hid hxd; have HC1d := Lib.hid (Kd.C_below HC1.out HWd.out); have HC2d := Lib.hid (Kd.C_below HC2.out HWd.out); have HO12 := Lib.hid (HO11.out.below HWd.out); have m2_ := ldA_of HT12.out.y; clear hxd hsd HXa HBa HG9 HWd))
            clear HT11 HC1 HC2 HO11
            refine (twA_any a A1 B2 k1 m2 _ HT12.out.b1 HT12.out.b2 HRA.out).mono ?_
            rintro e w13 ⟨v13, rfl, ho13, hb13⟩
            obtain ⟨A13, k13, rfl, _, hr13⟩ := BOwn.form ho13
            have HR13 := Lib.hid hr13
            have HT13 := Lib.hid (HT12.out.later hb13)
            have HX13 := Lib.hid ((hb13.block g9 (blk_lt HX9.out)).trans HX9.out)
            have HC13 := Lib.hid (Kd.C_below HC1d.out hb13)
            have HC14 := Lib.hid (Kd.C_below HC2d.out hb13)
            have HO13 := Lib.hid (HO12.out.below hb13)
            clear ho13 hr13 hb13 HT12 HX9 HC1d HC2d HO12 m2_
            go_wp2_with fail
            refine (bEq_any A6 A13 k6 k13 (encA a) (encA a) _ HO13.out HR13.out (encA_bytes _) (encA_bytes _)).mono ?_
            rintro e w14 ⟨rfl, rfl⟩
            rw [decide_eq_true rfl]
            have l3 := ldB_of HT13.out.x
            have l4 := ldB_of HX13.out
            go_wp2_with fail
            refine (same_ans a A1 A2 C1 C2 k1 k2 n1 n2 _ HT13.out.a1 HT13.out.a2 HC13.out HC14.out hs1 hs2).mono ?_
            rintro e w15 ⟨rfl, hb15⟩
            have HB15 := Lib.hid (HT13.out.below.trans (hb15.mono HT13.out.below.size))
            clear hb15 l3 l4
            go_wp2_with fail
            refine (awake_any _).mono ?_
            rintro e w6 ⟨rfl, hb6⟩
            have HB6 := Lib.hid (HB15.out.trans (hb6.mono HB15.out.size))
            clear hb6
            go_wp2_with fail
            go_ret
            exact ⟨rfl, HB6.out⟩
end Go.Proofs.YtlgippliihgcjaaDoor.C
