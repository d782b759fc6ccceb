/- CmdTells. -/
import Derived.Test.YtlgippliihgcjaaDoorTB
import Derived.Test.YtlgippliihgcjaaDoorW1
import Derived.Test.YtlgippliihgcjaaDoorE3
import Derived.Test.YtlgippliihgcjaaDoorR8
import Derived.Deep.RegionHeld3
namespace Go.Proofs.YtlgippliihgcjaaDoor.C
set_option linter.unusedVariables false
set_option linter.unusedSimpArgs false
open Go.RowKit Go.Proofs.YtlgippliihgcjaaDoorW.PrintWords Go.Proofs.YtlgippliihgcjaaDoorW.PrintLast

/-- An answer is loaded. -/
def ldB (x : Value) : Sem Value := Instr.loadAt 56 x
theorem loadAt_ldB (x : Value) : Instr.loadAt 56 x = ldB x := rfl
theorem ldB_of {w : World} {g : Nat} {c : Int} {x y : Value} (h : w.heap[g]? = some (.cells #[.int .i64 c, x, y] 56 (0, 0))) :
    (ldB (.pointer (some ⟨g, 0, none⟩))).run Tryd.prog w = .ok (.agg #[.int .i64 c, x, y]) w := by
  unfold ldB
  simp only [Instr.loadAt, Instr.sureAddr, Sem.run_bind, Sem.run_pure, Result.andThen_ok, run_loadVar_row w g 56 56 _ (0, 0) _ h Tryd.underlying56 rfl (an_info _ _ _)]
attribute [local go_sem ↓] loadAt_ldA loadAt_ldB

theorem rNs_len (bs : List Int) : ∀ (k p : Nat), (rNs bs k p).2.1.length ≤ k := by
  intro k
  induction k with
  | zero => intro p; simp [rNs]
  | succ k ih => intro p; rw [rNs]; split <;> simp [ih]
theorem stNs_ten (bs : List Int) (s : RS) : (stNs bs 10 s).2.length ≤ 10 := by
  have h := rNs_len bs (readN bs s.p).2.1 (readN bs s.p).2.2
  unfold stNs
  repeat' split
  all_goals first | (simp; done) | (simp only []; omega)
theorem ansOf_small (bs : List Int) : (ansOf bs).ids.length ≤ 10 ∧ (ansOf bs).took.length ≤ 10 := by
  unfold ansOf
  split
  · exact ⟨stNs_ten bs _, by show (raD bs).2.length ≤ 10; rw [show (raD bs).2.length = min (raC bs).2 10 from runK_len bs _ _]; omega⟩
  · exact ⟨by simp [zeroAn], by simp [zeroAn]⟩
theorem enc_of_tell {bs : List Int} (h : ansCode bs = 0) : encA (ansOf bs) = bs ∧ rightA (ansOf bs) = true := by
  have e : ansOf bs = raAn bs := by unfold ansOf; rw [if_pos h]
  unfold ansCode at h
  rw [e]
  split at h
  · split at h
    · rename_i h2; exact ⟨h2.2, h2.1⟩
    · simp at h
  · rename_i h2; exact absurd h h2

/-- The two answers in memory, while the law looks at them. -/
structure TwoA (w wr : World) (g3 g5 : Nat) (a : An) (A1 A2 B1 B2 : Option Addr) (k1 k2 m1 m2 : Nat) : Prop where
  x : wr.heap[g3]? = some (.cells #[.int .i64 a.code, .slice A1 a.ids.length k1, .slice A2 a.took.length k2] 56 (0, 0))
  y : wr.heap[g5]? = some (.cells #[.int .i64 a.code, .slice B1 a.ids.length m1, .slice B2 a.took.length m2] 61 (0, 0))
  a1 : IRead wr A1 a.ids
  a2 : TRead wr A2 a.took
  b1 : IRead wr B1 a.ids
  b2 : TRead wr B2 a.took
  below : Below w.heap.size w wr
theorem TwoA.later {w wr w' : World} {g3 g5 : Nat} {a : An} {A1 A2 B1 B2 : Option Addr} {k1 k2 m1 m2 : Nat} (h : TwoA w wr g3 g5 a A1 A2 B1 B2 k1 k2 m1 m2) (hb : Below wr.heap.size wr w') : TwoA w w' g3 g5 a A1 A2 B1 B2 k1 k2 m1 m2 :=
  ⟨(hb.block g3 (blk_lt h.x)).trans h.x, (hb.block g5 (blk_lt h.y)).trans h.y, Kd.C_below h.a1 hb, Kd.C_below h.a2 hb, Kd.C_below h.b1 hb, Kd.C_below h.b2 hb, h.below.trans (hb.mono h.below.size)⟩

set_option maxHeartbeats 16000000 in
set_option maxRecDepth 100000 in
theorem tells_any (A : Option Addr) (cp : Nat) (bs : List Int) (w : World) (h : BRead w A bs) (hby : Bytes bs) (hcap : bs.length ≤ cp)
    (hgl : w.cell? ⟨0, 0, none⟩ = some (.iface 154 (.agg #[.pointer (some ⟨1, 32, none⟩)]))) :
    Calls Tryd.prog 6 #[.slice A bs.length cp] w fun e w' => e = .returned (.bool true) ∧ Below w.heap.size w w' := by
  have hlen := h.len
  have HD := Lib.hid h
  have HY := Lib.hid hby
  have HG := Lib.hid hgl
  clear h hby hgl
  by_cases hl : (3000 : Int) < (bs.length : Int)
  · go_enter Tryd.func6, Tryd.ntmps6
    go_wp2_with fail
    refine (awake_any _).mono ?_
    rintro e w6 ⟨rfl, hb6⟩
    have HB6 := Lib.hid hb6
    clear hb6
    go_wp2_with fail
    go_ret
    exact ⟨rfl, HB6.out⟩
  · have hl7 : bs.length ≤ 70368744177664 := by omega
    go_enter Tryd.func6, Tryd.ntmps6
    go_wp2_with fail
    refine (readA_any A cp bs w HD.out hl7 HY.out).mono ?_
    rintro e w2 ⟨⟨iv, tv, ev, a_, rfl, he, hi, ht⟩, hb2⟩
    obtain ⟨A1, k1, rfl, _, hA1⟩ := IOwn.form hi
    obtain ⟨A2, k2, rfl, _, hA2⟩ := TOwn.form ht
    have HE := Lib.hid he
    have HA1 := Lib.hid hA1
    have HA2 := Lib.hid hA2
    have HB2 := Lib.hid hb2
    clear he hi ht hA1 hA2 hb2
    go_wp2_with (first
      | ((with_reducible refine gate_dst (N := 3) rfl ?_); refine box_event ?hg (N := 3) ?hd (cs := #[.int .i64 0, .slice none 0 0, .slice none 0 0]) (t := 56) ?hr ?_; (case hd => rfl); (case hg => rfl); (case hr => first | (go_simp; done) | (go_simp; rfl)); intro g3 hg3 wa hxa hba; have HG3 := Lib.hid hg3; have HXa := Lib.hid hxa; have HBa := Lib.hid hba; clear hg3 hxa hba)
      | (refine store_event rfl 56 (.tmp 3) (.tmp 14) rfl g3 #[.int .i64 (ansOf bs).code, .slice A1 (ansOf bs).ids.length k1, .slice A2 (ansOf bs).took.length k2] rfl rfl 56 #[.int .i64 0, .slice none 0 0, .slice none 0 0] HXa.out (an_info _ _ _) rfl (an_one _ _ _ _ _ _ _) ?_; intro wb hxb hsb; have HWb := Lib.hid (HBa.out.trans (hsb.2 w2.heap.size (by have := HG3.out; omega))); have HBb := Lib.hid (HB2.out.trans (HWb.out.mono HB2.out.size)); have HXb := Lib.hid hxb; have HEb := Lib.hid (HE.out.below HWb.out); have HA1b := Lib.hid (Kd.C_below HA1.out HWb.out); have HA2b := Lib.hid (Kd.C_below HA2.out HWb.out); clear hxb hsb HXa HBa HG3))
    refine (treadA_any A cp bs wb (HD.out.below HBb.out) hl7 HY.out hcap).mono ?_
    rintro e w4 ⟨⟨iv4, tv4, rfl, hi4, ht4⟩, hb4⟩
    obtain ⟨B1, m1, rfl, _, hB1⟩ := IOwn.form hi4
    obtain ⟨B2, m2, rfl, _, hB2⟩ := TOwn.form ht4
    have HC1 := Lib.hid hB1
    have HC2 := Lib.hid hB2
    have HE4 := Lib.hid (HEb.out.below hb4)
    have HX4 := Lib.hid ((hb4.block g3 (blk_lt HXb.out)).trans HXb.out)
    have HA1c := Lib.hid (Kd.C_below HA1b.out hb4)
    have HA2c := Lib.hid (Kd.C_below HA2b.out hb4)
    have HB4 := Lib.hid (HBb.out.trans (hb4.mono HBb.out.size))
    clear hi4 ht4 hB1 hB2 hb4 HWb HXb HEb HA1b HA2b HBb HE HA1 HA2 HB2
    go_wp2_with (first
      | ((with_reducible refine gate_dst (N := 5) rfl ?_); refine box_event ?hg (N := 5) ?hd (cs := #[.int .i64 0, .slice none 0 0, .slice none 0 0]) (t := 61) ?hr ?_; (case hd => rfl); (case hg => rfl); (case hr => first | (go_simp; done) | (go_simp; rfl)); intro g5 hg5 wa hxa hba; have HG5 := Lib.hid hg5; have HXa := Lib.hid hxa; have HBa := Lib.hid hba; clear hg5 hxa hba)
      | (refine store_event rfl 61 (.tmp 5) (.tmp 19) rfl g5 #[.int .i64 (ansOf bs).code, .slice B1 (ansOf bs).ids.length m1, .slice B2 (ansOf bs).took.length m2] rfl rfl 61 #[.int .i64 0, .slice none 0 0, .slice none 0 0] HXa.out (ran_info _ _ _) rfl (an_one _ _ _ _ _ _ _) ?_; intro wd hxd hsd; have HWd := Lib.hid (HBa.out.trans (hsd.2 w4.heap.size (by have := HG5.out; omega))); have HT : Hid (TwoA w wd g3 g5 (ansOf bs) A1 A2 B1 B2 k1 k2 m1 m2) := Lib.hid ⟨(HWd.out.block g3 (blk_lt HX4.out)).trans HX4.out, hxd, Kd.C_below HA1c.out HWd.out, Kd.C_below HA2c.out HWd.out, Kd.C_below HC1.out HWd.out, Kd.C_below HC2.out HWd.out, HB4.out.trans (HWd.out.mono HB4.out.size)⟩; have HEd := Lib.hid (HE4.out.below HWd.out); clear hxd hsd HXa HBa HG5 HWd))
    clear HX4 HA1c HA2c HB4 HC1 HC2 HE4
    have hok : ansCode bs = 0 → encA (ansOf bs) = bs ∧ rightA (ansOf bs) = true := enc_of_tell
    have HOK := Lib.hid hok
    have hsm := ansOf_small bs
    have HSM := Lib.hid hsm
    clear hok hsm
    generalize ansOf bs = an at HOK HT HSM ⊢
    generalize ansCode bs = rc at HOK HEd ⊢
    have hbne : (rc != rc) = false := by simp
    have hdr := below_drew1 (Below.refl wd.heap.size wd)
    have l0 := ldB_of (HT.out.later hdr).x
    have m0 := ldA_of (HT.out.later hdr).y
    have hgd := Lib.hid (pw_cell_below (HT.out.later hdr).below HG.out)
    clear hdr
    go_region_held3 (fun w' => (ldB (.pointer (some ⟨g3, 0, none⟩))).run Tryd.prog w' = .ok (.agg #[.int .i64 an.code, .slice A1 an.ids.length k1, .slice A2 an.took.length k2]) w' ∧ (ldA (.pointer (some ⟨g5, 0, none⟩))).run Tryd.prog w' = .ok (.agg #[.int .i64 an.code, .slice B1 an.ids.length m1, .slice B2 an.took.length m2]) w')
      (first
        | exact ⟨l3, q3⟩
        | exact ⟨l2, q2⟩
        | exact ⟨l1, q1⟩
        | exact ⟨l0, m0⟩)
      (first
        | (go_at_call 14; refine (code_any _ ev a_ rc _ (HEd.out.below (below_drew1 (Below.refl _ _))) hgd.out).mono ?_; rintro e w5 ⟨rfl, hb5⟩; have HT5 := Lib.hid (HT.out.later ((below_drew1 (Below.refl wd.heap.size wd)).trans hb5)); have l1 := ldB_of HT5.out.x; have q1 := ldA_of HT5.out.y; clear hb5)
        | (go_at_call 24; refine (lanswer_any an A1 A2 k1 k2 _ HT5.out.a2 (by have := HSM.out; omega)).mono ?_; rintro e w6 ⟨v6, rfl, ho6, hb6⟩; obtain ⟨A6, k6, rfl, _, hr6⟩ := TOwn.form ho6; have HR6 := Lib.hid hr6; have HT6 := Lib.hid (HT5.out.later hb6); have l2 := ldB_of HT6.out.x; have q2 := ldA_of HT6.out.y; clear ho6 hr6 hb6)
        | (go_at_call 23; refine (alike_same an A1 A6 B1 B2 k1 k6 m1 m2 _ HT6.out.a1 HR6.out HT6.out.b1 HT6.out.b2 (by have := HSM.out; omega) (by have := HSM.out; omega)).mono ?_; rintro e w7 ⟨rfl, hb7⟩; have HT7 := Lib.hid (HT6.out.later hb7); have l3 := ldB_of HT7.out.x; have q3 := ldA_of HT7.out.y; clear hb7))
    have HBL := Lib.hid HT7.out.below
    clear HT HT5 HT6 hgd HEd HSM l0 l1 l2 m0 q1 q2
    by_cases h0 : rc = 0
    · obtain ⟨he, hr⟩ := HOK.out h0
      have HEN := Lib.hid he
      have HR := Lib.hid hr
      subst h0
      clear he hr HOK hbne
      go_wp2_with fail
      refine (twA_any an B1 B2 m1 m2 _ HT7.out.b1 HT7.out.b2 HR.out).mono ?_
      rintro e w8 ⟨v8, rfl, ho8, hb8⟩
      obtain ⟨A8, k8, rfl, _, hr8⟩ := BOwn.form ho8
      have HR8 := Lib.hid hr8
      have HB8 := Lib.hid (HBL.out.trans (hb8.mono HBL.out.size))
      clear ho8 hr8 hb8
      go_wp2_with fail
      refine (bEq_any A8 A k8 cp (encA an) bs _ HR8.out (HD.out.below HB8.out) (encA_bytes _) HY.out).mono ?_
      rintro e w9 ⟨rfl, rfl⟩
      rw [decide_eq_true HEN.out]
      go_wp2_with fail
      refine (awake_any _).mono ?_
      rintro e w10 ⟨rfl, hb10⟩
      have HB10 := Lib.hid (HB8.out.trans (hb10.mono HB8.out.size))
      clear hb10
      go_wp2_with fail
      go_ret
      exact ⟨rfl, HB10.out⟩
    · have hne : (rc != 0) = true := by simpa using h0
      clear h0 HOK hbne
      go_wp2_with fail
      refine (awake_any _).mono ?_
      rintro e w10 ⟨rfl, hb10⟩
      have HB10 := Lib.hid (HBL.out.trans (hb10.mono HBL.out.size))
      clear hb10
      go_wp2_with fail
      go_ret
      exact ⟨rfl, HB10.out⟩
end Go.Proofs.YtlgippliihgcjaaDoor.C
