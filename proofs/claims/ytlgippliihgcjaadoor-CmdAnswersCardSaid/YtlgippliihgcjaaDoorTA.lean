/- The document's writer of an answer, its reader of a row, its word on which answers may be written. -/
import Derived.Test.YtlgippliihgcjaaDoorS5
import Derived.Test.YtlgippliihgcjaaDoorS3
import Derived.Test.YtlgippliihgcjaaDoorP4
import Derived.Deep.RegionHeldLaw
namespace Go.Proofs.YtlgippliihgcjaaDoor.C
set_option linter.unusedVariables false
set_option linter.unusedSimpArgs false
open Go.RowKit Go.Proofs.YtlgippliihgcjaaDoorW.PrintWords

theorem iread_at {w w1 : World} {A : Option Addr} {l : List Int} (h : IRead w A l) (hb : Below w.heap.size w w1) {k : Nat} {x : Int} (hk : l[k]? = some x) : ∃ ad, A = some ad ∧ w1.cell? (ad.add k) = some (.int .i64 x) := by
  obtain ⟨ad, x', e, hc, hx⟩ := cells_at (cells_C h) hb (k := k) (by rw [List.length_map]; exact (List.getElem?_eq_some_iff.1 hk).1)
  rw [List.getElem?_map, hk] at hx
  cases hx
  exact ⟨ad, e, hc⟩

set_option maxHeartbeats 4000000 in
set_option maxRecDepth 100000 in
theorem refNums_own (A : Option Addr) (c : Nat) (l : List Int) (w : World) (hr : IRead w A l) (hn : l.length ≤ 1000) (hall : l.all numOk = true) :
    Calls Tryd.prog 59 #[.slice A l.length c] w fun e w' => ∃ v, e = .returned v ∧ BOwn w' w.heap.size v (rowB l) ∧ Below w.heap.size w w' := by
  have HR := Lib.hid hr
  have HA := Lib.hid hall
  clear hr hall
  go_enter Tryd.func59, Tryd.ntmps59
  go_wp2_with fail
  refine (refNum_nat l.length _ (by omega)).mono ?_
  rintro e w1 ⟨v1, rfl, ho1, hb1⟩
  have HO1 : Hid (BOwn w1 w.heap.size v1 (numB l.length ++ fm (l.take 0))) := Lib.hid (by simpa [fm] using ho1)
  have HB1 := Lib.hid hb1
  have hl9 := numB_len' (n := l.length) (by omega)
  clear ho1 hb1
  go_wp2_with fail
  go_loopw [3, 4] (fun b i wr => ∃ (kk : Nat), kk ≤ l.length ∧ i = .int .i64 kk ∧ Hid (BOwn wr w.heap.size b (numB l.length ++ fm (l.take kk))) ∧ Below w.heap.size w wr) (fun _ i _ => l.length - (intOf i).toNat)
  case atStart => exact ⟨0, by omega, rfl, HO1, HB1.out⟩
  case round =>
    obtain ⟨kk, hk, rfl, HO, hb⟩ := hrel
    by_cases hlt : (kk : Int) < (l.length : Int)
    · obtain ⟨x, hx⟩ : ∃ x, l[kk]? = some x := ⟨_, List.getElem?_eq_getElem (by omega)⟩
      obtain ⟨ad, rfl, hcell⟩ := iread_at HR.out hb hx
      have hx2 := numOk_iff (all_at HA.out hx)
      have HX := Lib.hid (fm_snoc hx)
      have HLN : Hid ((numB l.length ++ fm (l.take kk)).length ≤ 20000) := Lib.hid (by have := fm_take_len HA.out kk; rw [List.length_append]; omega)
      have hnl := numB_len' (n := x.toNat) (by omega)
      have HBW := Lib.hid hb
      clear hx hb
      go_wp2_with fail
      refine (refNum_any x _ hx2.1 (by omega)).mono ?_
      rintro e w5 ⟨v5, rfl, ho, hb5⟩
      obtain ⟨A2, c2, rfl, _, hr2⟩ := ho.form
      have HR2 := Lib.hid hr2
      have HO5 := Lib.hid (HO.out.below hb5)
      have HB5 := Lib.hid (HBW.out.trans (hb5.mono HBW.out.size))
      clear ho hr2 hb5 HO hcell
      go_wp2_with (at_builtin; refine print_append_row (w0 := w) w.heap.size rfl (.tmp 14) (.tmp 19) 30 5 .u8 1 rfl Tryd.underlying30 info_u8 (by omega) _ (numB l.length ++ fm (l.take kk)) (numB x.toNat) A2 _ c2 rfl rfl HO5.out HR2.out.reads HB5.out HB5.out.size (by have := HLN.out; omega) ?_; intro v1 w9 hown hb9 hg9 hat9; have HO9 := Lib.hid hown; have HB9 := Lib.hid hb9; clear hown hb9 hg9 hat9)
      go_roundw
      case rel => exact ⟨kk + 1, by omega, by go_num, by rw [HX.out, ← List.append_assoc]; exact HO9, HB9.out⟩
      case measure => simp [intOf]; omega
    · obtain rfl : kk = l.length := by omega
      have HBW := Lib.hid hb
      clear hb
      go_wp2_with fail
      go_ret
      exact ⟨_, rfl, by have := HO.out; rw [List.take_length] at this; exact this, HBW.out⟩

/-- What the document's reader of a row tells. -/
def RowTold (bs : List Int) (most p : Nat) (w : World) (e : Ending) (w' : World) : Prop :=
  ∃ v, e = .returned (.tuple #[v, .int .i64 (stNs bs most ⟨p, 0⟩).1.p, .int .i64 (stNs bs most ⟨p, 0⟩).1.code]) ∧ IOwn w' w.heap.size v (stNs bs most ⟨p, 0⟩).2 ∧ Below w.heap.size w w'

theorem stNs_no {bs : List Int} {m p : Nat} (h : (readN bs p).1 ≠ 0) : stNs bs m ⟨p, 0⟩ = (⟨p, (readN bs p).1⟩, []) := by
  unfold stNs; rw [if_pos rfl, if_neg h]
theorem stNs_much {bs : List Int} {m p : Nat} (h : (readN bs p).1 = 0) (hm : m < (readN bs p).2.1) : stNs bs m ⟨p, 0⟩ = (⟨p, 2⟩, []) := by
  unfold stNs; rw [if_pos rfl, if_pos h, if_pos hm]
theorem stNs_fail {bs : List Int} {m p : Nat} (h : (readN bs p).1 = 0) (hm : ¬ m < (readN bs p).2.1) (hf : (rNs bs (readN bs p).2.1 (readN bs p).2.2).1 ≠ 0) : stNs bs m ⟨p, 0⟩ = (⟨p, (rNs bs (readN bs p).2.1 (readN bs p).2.2).1⟩, []) := by
  unfold stNs; rw [if_pos rfl, if_pos h, if_neg hm, if_neg hf]
theorem stNs_yes {bs : List Int} {m p : Nat} (h : (readN bs p).1 = 0) (hm : ¬ m < (readN bs p).2.1) (hf : (rNs bs (readN bs p).2.1 (readN bs p).2.2).1 = 0) : stNs bs m ⟨p, 0⟩ = (⟨(rNs bs (readN bs p).2.1 (readN bs p).2.2).2.2, 0⟩, (rNs bs (readN bs p).2.1 (readN bs p).2.2).2.1) := by
  unfold stNs; rw [if_pos rfl, if_pos h, if_neg hm, if_pos hf]

set_option maxHeartbeats 8000000 in
set_option maxRecDepth 100000 in
theorem refReadNums_any (A : Option Addr) (cp p most : Nat) (bs : List Int) (w : World) (h : BRead w A bs) (hby : Bytes bs) (hp : p ≤ bs.length) (hl : bs.length ≤ 70368744177664) (hmost : most ≤ 1000) :
    Calls Tryd.prog 58 #[.slice A bs.length cp, .int .i64 p, .int .i64 most] w (RowTold bs most p w) := by
  have HD := Lib.hid h
  have HY := Lib.hid hby
  have HR := Lib.hid (refRead_any A cp p bs w h hby hp hl)
  have hq := readN_le hp
  have hnb := readN_bound bs p
  clear h hby
  go_enter Tryd.func58, Tryd.ntmps58
  go_wp2_with fail
  refine HR.out.mono ?_
  rintro e w' ⟨rfl, rfl⟩
  by_cases h0 : (readN bs p).1 = 0
  · rw [if_pos h0]
    have H0 := Lib.hid h0
    rw [h0]
    clear h0
    obtain ⟨n, hn⟩ : ∃ n, n = (readN bs p).2.1 := ⟨_, rfl⟩
    obtain ⟨q, hqq⟩ : ∃ q, q = (readN bs p).2.2 := ⟨_, rfl⟩
    rw [← hn, ← hqq]
    rw [← hn] at hnb
    rw [← hqq] at hq
    have HN := Lib.hid hn
    have HQ := Lib.hid hqq
    clear hn hqq HR
    by_cases hm : (most : Int) < (n : Int)
    · go_wp2_with fail
      go_ret3
      unfold RowTold
      rw [stNs_much H0.out (by rw [← HN.out]; omega)]
      exact ⟨_, rfl, IOwn.nil _ _, Below.refl _ _⟩
    · have HM := Lib.hid hm
      have hmd : decide (most < n) = false := decide_eq_false (by omega)
      go_wp2_with fail
      go_loopw [10, 12, 13] (fun a v i wr => ∃ (k pk : Nat) (pre : List Int), k ≤ n ∧ a = .int .i64 pk ∧ i = .int .i64 k ∧ Hid (NsAt bs n q k pk pre) ∧ Hid (IOwn wr w.heap.size v pre) ∧ Below w.heap.size w wr) (fun _ _ i _ => n - (intOf i).toNat)
      case atStart => exact ⟨0, q, [], by omega, rfl, rfl, Lib.hid (NsAt.start hq), Lib.hid (IOwn.nil _ _), Below.refl _ _⟩
      case round =>
        obtain ⟨k, pk, pre, hk, rfl, rfl, HA, HO, hb⟩ := hrel
        have HBW := Lib.hid hb
        clear hb
        by_cases hlt : (k : Int) < (n : Int)
        · have hpk := HA.out.2.2
          have hprl := HA.out.2.1
          have HPL := Lib.hid hprl
          clear hprl
          go_wp2_with fail
          refine (refRead_any A cp pk bs _ (HD.out.below HBW.out) HY.out hpk hl).mono ?_
          rintro e w' ⟨rfl, rfl⟩
          by_cases h1 : (readN bs pk).1 = 0
          · rw [if_pos h1]
            have HNX := Lib.hid (HA.out.next (by omega) h1)
            have hpk2 := readN_le (bs := bs) (p := pk) hpk
            rw [h1]
            clear h1
            go_wp2_with (at_builtin; refine print_append_num (w0 := w) w.heap.size rfl (.tmp 48) (.tmp 50) 53 3 .i64 8 rfl Tryd.underlying53 info_int (by omega) _ pre ((readN bs pk).2.1 : Int) rfl rfl HO.out HBW.out HBW.out.size (by have := HPL.out; omega) ?_; intro v1 w9 hown hb9 hg9 hat9; have HO9 := Lib.hid hown; have HB9 := Lib.hid hb9; clear hown hb9 hg9 hat9)
            go_roundw
            case rel => exact ⟨k + 1, _, _, by omega, rfl, by go_num, HNX, HO9, HB9.out⟩
            case measure => simp [intOf]; omega
          · rw [if_neg h1]
            have HF := Lib.hid (HA.out.fail (by omega) h1)
            obtain ⟨cd, hcd⟩ : ∃ cd, cd = (readN bs pk).1 := ⟨_, rfl⟩
            rw [← hcd] at h1 HF ⊢
            have hne : (cd != 0) = true := by simpa using h1
            have H1 := Lib.hid h1
            clear hcd h1
            go_wp2_with fail
            go_ret3
            unfold RowTold
            rw [stNs_fail H0.out (by rw [← HN.out]; have := HM.out; omega) (by rw [← HN.out, ← HQ.out, HF.out]; exact H1.out), ← HN.out, ← HQ.out, HF.out]
            exact ⟨_, rfl, IOwn.nil _ _, HBW.out⟩
        · obtain rfl : k = n := by omega
          have HDN := Lib.hid HA.out.done
          go_wp2_with fail
          go_ret3
          unfold RowTold
          rw [stNs_yes H0.out (by rw [← HN.out]; have := HM.out; omega) (by rw [← HN.out, ← HQ.out, HDN.out]), ← HN.out, ← HQ.out, HDN.out]
          exact ⟨_, rfl, HO.out, HBW.out⟩
  · rw [if_neg h0]
    obtain ⟨cd, hcd⟩ : ∃ cd, cd = (readN bs p).1 := ⟨_, rfl⟩
    rw [← hcd] at h0 ⊢
    have hne : (cd != 0) = true := by simpa using h0
    have HC := Lib.hid hcd
    have H0 := Lib.hid h0
    clear hcd h0 HR
    go_wp2_with fail
    go_ret3
    unfold RowTold
    rw [stNs_no (by rw [← HC.out]; exact H0.out), ← HC.out]
    exact ⟨_, rfl, IOwn.nil _ _, Below.refl _ _⟩
end Go.Proofs.YtlgippliihgcjaaDoor.C

namespace Go.Proofs.YtlgippliihgcjaaDoor.C
open Go.RowKit Go.Proofs.YtlgippliihgcjaaDoorW.PrintWords

set_option maxHeartbeats 4000000 in
set_option maxRecDepth 100000 in
theorem trA_low (a : An) (A1 A2 : Option Addr) (k1 k2 : Nat) (w : World) (h0 : a.code < 0) :
    Calls Tryd.prog 27 #[.agg #[.int .i64 a.code, .slice A1 a.ids.length k1, .slice A2 a.took.length k2]] w fun e w' => e = .returned (.bool false) ∧ Below w.heap.size w w' := by
  have d0 : decide (a.code < 0) = true := decide_eq_true h0
  go_enter Tryd.func27, Tryd.ntmps27
  go_wp2_with fail
  go_quiet ((go_at_call 35; exact Calls.quiet_of_same (most_any _)))
  go_wp2_with fail
  go_ret
  exact ⟨rfl, pw_below_drewN (below_alloc (Below.refl _ _) _) _⟩

set_option maxHeartbeats 4000000 in
set_option maxRecDepth 100000 in
theorem trA_high (a : An) (A1 A2 : Option Addr) (k1 k2 : Nat) (w : World) (_h0 : 0 ≤ a.code) (h1 : 4611686018427387904 < a.code) :
    Calls Tryd.prog 27 #[.agg #[.int .i64 a.code, .slice A1 a.ids.length k1, .slice A2 a.took.length k2]] w fun e w' => e = .returned (.bool false) ∧ Below w.heap.size w w' := by
  have d0 : decide (a.code < 0) = false := decide_eq_false (by omega)
  have d1 : decide ((4611686018427387904 : Int) < a.code) = true := decide_eq_true h1
  go_enter Tryd.func27, Tryd.ntmps27
  go_wp2_with fail
  go_quiet ((go_at_call 35; exact Calls.quiet_of_same (most_any _)))
  go_wp2_with fail
  go_ret
  exact ⟨rfl, pw_below_drewN (below_alloc (Below.refl _ _) _) _⟩

set_option maxHeartbeats 4000000 in
set_option maxRecDepth 100000 in
theorem trA_ids (a : An) (A1 A2 : Option Addr) (k1 k2 : Nat) (w : World) (h0 : 0 ≤ a.code) (h1 : a.code ≤ 4611686018427387904) (h2 : 10 < a.ids.length) :
    Calls Tryd.prog 27 #[.agg #[.int .i64 a.code, .slice A1 a.ids.length k1, .slice A2 a.took.length k2]] w fun e w' => e = .returned (.bool false) ∧ Below w.heap.size w w' := by
  have d0 : decide (a.code < 0) = false := decide_eq_false (by omega)
  have d1 : decide ((4611686018427387904 : Int) < a.code) = false := decide_eq_false (by omega)
  have d2 : decide ((10 : Int) < (a.ids.length : Int)) = true := decide_eq_true (by omega)
  have d2' : decide (10 < a.ids.length) = true := decide_eq_true h2
  go_enter Tryd.func27, Tryd.ntmps27
  go_wp2_with fail
  go_quiet ((go_at_call 35; exact Calls.quiet_of_same (most_any _)))
  go_wp2_with fail
  go_ret
  exact ⟨rfl, pw_below_drewN (below_alloc (Below.refl _ _) _) _⟩

set_option maxHeartbeats 4000000 in
set_option maxRecDepth 100000 in
theorem trA_took (a : An) (A1 A2 : Option Addr) (k1 k2 : Nat) (w : World) (h0 : 0 ≤ a.code) (h1 : a.code ≤ 4611686018427387904) (h2 : a.ids.length ≤ 10) (h3 : 10 < a.took.length) :
    Calls Tryd.prog 27 #[.agg #[.int .i64 a.code, .slice A1 a.ids.length k1, .slice A2 a.took.length k2]] w fun e w' => e = .returned (.bool false) ∧ Below w.heap.size w w' := by
  have d0 : decide (a.code < 0) = false := decide_eq_false (by omega)
  have d1 : decide ((4611686018427387904 : Int) < a.code) = false := decide_eq_false (by omega)
  have d2 : decide ((10 : Int) < (a.ids.length : Int)) = false := decide_eq_false (by omega)
  have d2' : decide (10 < a.ids.length) = false := decide_eq_false (by omega)
  have d3 : decide ((10 : Int) < (a.took.length : Int)) = true := decide_eq_true (by omega)
  have d3' : decide (10 < a.took.length) = true := decide_eq_true h3
  go_enter Tryd.func27, Tryd.ntmps27
  go_wp2_with fail
  go_quiet ((go_at_call 35; exact Calls.quiet_of_same (most_any _)))
  go_wp2_with fail
  go_ret
  exact ⟨rfl, pw_below_drewN (below_alloc (Below.refl _ _) _) _⟩

theorem tkOk_no {t : Tk} (h : t.id < 0 ∨ 4611686018427387904 < t.id ∨ t.count < 0 ∨ 4611686018427387904 < t.count ∨ 256 < t.receipt.size ∨ 256 < t.body.size ∨ 256 < t.group.size) : tkOk t = false := by
  apply Bool.eq_false_iff.2
  intro hk
  obtain ⟨⟨p1, p2⟩, ⟨p3, p4⟩, p5, p6, p7⟩ := tkOk_iff hk
  omega
theorem tkOk_yes {t : Tk} (h1 : 0 ≤ t.id) (h2 : t.id ≤ 4611686018427387904) (h3 : 0 ≤ t.count) (h4 : t.count ≤ 4611686018427387904) (h5 : t.receipt.size ≤ 256) (h6 : t.body.size ≤ 256) (h7 : t.group.size ≤ 256) : tkOk t = true := by
  simp [tkOk, numOk, txtOk, *]

set_option maxHeartbeats 16000000 in
set_option maxRecDepth 100000 in
theorem trA_mid (a : An) (A1 A2 : Option Addr) (k1 k2 : Nat) (w : World) (hI : IRead w A1 a.ids) (hT : TRead w A2 a.took) (h0 : 0 ≤ a.code) (h1 : a.code ≤ 4611686018427387904) (h2 : a.ids.length ≤ 10) (h3 : a.took.length ≤ 10) :
    Calls Tryd.prog 27 #[.agg #[.int .i64 a.code, .slice A1 a.ids.length k1, .slice A2 a.took.length k2]] w fun e w' => e = .returned (.bool (a.ids.all numOk && a.took.all tkOk)) ∧ Below w.heap.size w w' := by
  have d0 : decide (a.code < 0) = false := decide_eq_false (by omega)
  have d1 : decide ((4611686018427387904 : Int) < a.code) = false := decide_eq_false (by omega)
  have d2 : decide ((10 : Int) < (a.ids.length : Int)) = false := decide_eq_false (by omega)
  have d2' : decide (10 < a.ids.length) = false := decide_eq_false (by omega)
  have d3 : decide ((10 : Int) < (a.took.length : Int)) = false := decide_eq_false (by omega)
  have d3' : decide (10 < a.took.length) = false := decide_eq_false (by omega)
  have HI := Lib.hid hI
  have HT := Lib.hid hT
  clear hI hT
  go_enter Tryd.func27, Tryd.ntmps27
  go_wp2_with fail
  go_quiet ((go_at_call 35; exact Calls.quiet_of_same (most_any _)))
  have Hg : Hid (((w.alloc (.cells #[.int .i64 a.code, .slice A1 a.ids.length k1, .slice A2 a.took.length k2] 61)).drewN nq).heap[w.heap.size]? = some (.cells #[.int .i64 a.code, .slice A1 a.ids.length k1, .slice A2 a.took.length k2] 61 (0, 0))) := Lib.hid (heap_alloc_new w (.cells #[.int .i64 a.code, .slice A1 a.ids.length k1, .slice A2 a.took.length k2] 61))
  have HB := Lib.hid (pw_below_drewN (below_alloc (Below.refl w.heap.size w) (.cells #[.int .i64 a.code, .slice A1 a.ids.length k1, .slice A2 a.took.length k2] 61)) nq)
  generalize (w.alloc (.cells #[.int .i64 a.code, .slice A1 a.ids.length k1, .slice A2 a.took.length k2] 61)).drewN nq = w1 at Hg HB ⊢
  generalize hgg : w.heap.size = g at Hg ⊢
  have HGG := Lib.hid hgg
  clear hgg
  go_wp2_with fail
  go_loopw [3] (fun i wr => ∃ kk : Nat, kk ≤ a.ids.length ∧ i = .int .i64 kk ∧ Hid ((a.ids.take kk).all numOk = true) ∧ Below w1.heap.size w1 wr) (fun i _ => a.ids.length - (intOf i).toNat)
  case atStart => exact ⟨0, by omega, rfl, Lib.hid rfl, Below.refl _ _⟩
  case round =>
    obtain ⟨kk, hk, rfl, HK, hb⟩ := hrel
    have Hg2 := Lib.hid ((hb.block g (blk_lt Hg.out)).trans Hg.out)
    have zi : wr.cell? ⟨g, 1, none⟩ = some (.slice A1 a.ids.length k1) := (blk_cell Hg2.out 1).trans rfl
    by_cases hlt : (kk : Int) < (a.ids.length : Int)
    · obtain ⟨x, hx⟩ : ∃ x, a.ids[kk]? = some x := ⟨_, List.getElem?_eq_getElem (by omega)⟩
      obtain ⟨ad, rfl, hcell⟩ := iread_at HI.out (HB.out.trans (hb.mono HB.out.size)) hx
      have HX := Lib.hid hx
      clear hx
      by_cases hx0 : x < 0
      · have hd : decide (x < 0) = true := decide_eq_true hx0
        have HF := Lib.hid (all_no (p := numOk) HX.out (by unfold numOk; exact decide_eq_false (by omega)))
        go_wp2_with fail
        go_quiet (fail)
        go_wp2_with fail
        go_ret
        exact ⟨by rw [HF.out]; rfl, HB.out.trans (pw_below_drewN (hb.mono HB.out.size) _)⟩
      · by_cases hx1 : 4611686018427387904 < x
        · have hd : decide (x < 0) = false := decide_eq_false hx0
          have HF := Lib.hid (all_no (p := numOk) HX.out (by unfold numOk; exact decide_eq_false (by omega)))
          go_wp2_with fail
          go_quiet ((go_at_call 35; exact Calls.quiet_of_same (most_any _)))
          go_wp2_with fail
          go_ret
          exact ⟨by rw [HF.out]; rfl, HB.out.trans (pw_below_drewN (hb.mono HB.out.size) _)⟩
        · have hd : decide (x < 0) = false := decide_eq_false hx0
          have hd2 : decide (4611686018427387904 < x) = false := decide_eq_false hx1
          have HF := Lib.hid (all_snoc (p := numOk) HK.out HX.out (by unfold numOk; exact decide_eq_true (by omega)))
          go_wp2_with fail
          go_quiet ((go_at_call 35; exact Calls.quiet_of_same (most_any _)))
          go_wp2_with fail
          go_roundw
          case rel => exact ⟨kk + 1, by omega, by go_num, HF, pw_below_drewN hb _⟩
          case measure => simp [intOf]; omega
    · obtain rfl : kk = a.ids.length := by omega
      have HN : Hid (a.ids.all numOk = true) := Lib.hid (by have := HK.out; rwa [List.take_of_length_le (Nat.le_refl _)] at this)
      have HB3 := Lib.hid (HB.out.trans (hb.mono HB.out.size))
      clear HK HB hb Hg
      go_wp2_with fail
      obtain ⟨wo, hwo⟩ : ∃ wo : World, wo = wr := ⟨_, rfl⟩
      subst hwo
      go_loopw [4] (fun i wr2 => ∃ kk : Nat, kk ≤ a.took.length ∧ i = .int .i64 kk ∧ Hid ((a.took.take kk).all tkOk = true) ∧ Below wo.heap.size wo wr2) (fun i _ => a.took.length - (intOf i).toNat)
      case atStart => exact ⟨0, by omega, rfl, Lib.hid rfl, Below.refl _ _⟩
      case round =>
        obtain ⟨kk, hk, rfl, HK, hb⟩ := hrel
        have Hg3 := Lib.hid ((hb.block g (blk_lt Hg2.out)).trans Hg2.out)
        have zt : wr.cell? ⟨g, 2, none⟩ = some (.slice A2 a.took.length k2) := (blk_cell Hg3.out 2).trans rfl
        clear zi
        have HBW := Lib.hid (HB3.out.trans (hb.mono HB3.out.size))
        by_cases hlt : (kk : Int) < (a.took.length : Int)
        · obtain ⟨t, ht⟩ : ∃ t, a.took[kk]? = some t := ⟨_, List.getElem?_eq_getElem (by omega)⟩
          obtain ⟨ad, rfl, c0, c1, c2, c3, c4⟩ := TRead.at_ (Kd.C_below HT.out HBW.out) ht
          have HX := Lib.hid ht
          clear ht
          go_wp2_with fail
          clear c0 c1 c2 c3 c4 zt
          by_cases b0 : t.id < 0
          · have e0 : decide (t.id < 0) = true := decide_eq_true (by omega)
            have HF := Lib.hid (all_no (p := tkOk) HX.out (tkOk_no (.inl b0)))
            go_quiet (fail)
            go_wp2_with fail
            go_ret
            exact ⟨by rw [HF.out, HN.out]; rfl, pw_below_drewN (below_alloc HBW.out _) _⟩
          · by_cases b1 : (4611686018427387904 : Int) < t.id
            · have e0 : decide (t.id < 0) = false := decide_eq_false (by omega)
              have e1 : decide ((4611686018427387904 : Int) < t.id) = true := decide_eq_true (by omega)
              have HF := Lib.hid (all_no (p := tkOk) HX.out (tkOk_no (.inr (.inl b1))))
              go_quiet ((go_at_call 35; exact Calls.quiet_of_same (most_any _)))
              go_wp2_with fail
              go_ret
              exact ⟨by rw [HF.out, HN.out]; rfl, pw_below_drewN (below_alloc HBW.out _) _⟩
            · by_cases b2 : t.count < 0
              · have e0 : decide (t.id < 0) = false := decide_eq_false (by omega)
                have e1 : decide ((4611686018427387904 : Int) < t.id) = false := decide_eq_false (by omega)
                have e2 : decide (t.count < 0) = true := decide_eq_true (by omega)
                have HF := Lib.hid (all_no (p := tkOk) HX.out (tkOk_no (.inr (.inr (.inl b2)))))
                go_quiet ((go_at_call 35; exact Calls.quiet_of_same (most_any _)))
                go_wp2_with fail
                go_ret
                exact ⟨by rw [HF.out, HN.out]; rfl, pw_below_drewN (below_alloc HBW.out _) _⟩
              · by_cases b3 : (4611686018427387904 : Int) < t.count
                · have e0 : decide (t.id < 0) = false := decide_eq_false (by omega)
                  have e1 : decide ((4611686018427387904 : Int) < t.id) = false := decide_eq_false (by omega)
                  have e2 : decide (t.count < 0) = false := decide_eq_false (by omega)
                  have e3 : decide ((4611686018427387904 : Int) < t.count) = true := decide_eq_true (by omega)
                  have HF := Lib.hid (all_no (p := tkOk) HX.out (tkOk_no (.inr (.inr (.inr (.inl b3))))))
                  go_quiet ((go_at_call 35; exact Calls.quiet_of_same (most_any _)))
                  go_wp2_with fail
                  go_ret
                  exact ⟨by rw [HF.out, HN.out]; rfl, pw_below_drewN (below_alloc HBW.out _) _⟩
                · by_cases b4 : 256 < t.receipt.size
                  · have e0 : decide (t.id < 0) = false := decide_eq_false (by omega)
                    have e1 : decide ((4611686018427387904 : Int) < t.id) = false := decide_eq_false (by omega)
                    have e2 : decide (t.count < 0) = false := decide_eq_false (by omega)
                    have e3 : decide ((4611686018427387904 : Int) < t.count) = false := decide_eq_false (by omega)
                    have e4 : decide ((256 : Int) < (t.receipt.size : Int)) = true := decide_eq_true (by omega)
                    have HF := Lib.hid (all_no (p := tkOk) HX.out (tkOk_no (.inr (.inr (.inr (.inr (.inl b4)))))))
                    go_quiet ((go_at_call 35; exact Calls.quiet_of_same (most_any _)))
                    go_wp2_with fail
                    go_ret
                    exact ⟨by rw [HF.out, HN.out]; rfl, pw_below_drewN (below_alloc HBW.out _) _⟩
                  · by_cases b5 : 256 < t.body.size
                    · have e0 : decide (t.id < 0) = false := decide_eq_false (by omega)
                      have e1 : decide ((4611686018427387904 : Int) < t.id) = false := decide_eq_false (by omega)
                      have e2 : decide (t.count < 0) = false := decide_eq_false (by omega)
                      have e3 : decide ((4611686018427387904 : Int) < t.count) = false := decide_eq_false (by omega)
                      have e4 : decide ((256 : Int) < (t.receipt.size : Int)) = false := decide_eq_false (by omega)
                      have e5 : decide ((256 : Int) < (t.body.size : Int)) = true := decide_eq_true (by omega)
                      have HF := Lib.hid (all_no (p := tkOk) HX.out (tkOk_no (.inr (.inr (.inr (.inr (.inr (.inl b5))))))))
                      go_quiet ((go_at_call 35; exact Calls.quiet_of_same (most_any _)))
                      go_wp2_with fail
                      go_ret
                      exact ⟨by rw [HF.out, HN.out]; rfl, pw_below_drewN (below_alloc HBW.out _) _⟩
                    · by_cases b6 : 256 < t.group.size
                      · have e0 : decide (t.id < 0) = false := decide_eq_false (by omega)
                        have e1 : decide ((4611686018427387904 : Int) < t.id) = false := decide_eq_false (by omega)
                        have e2 : decide (t.count < 0) = false := decide_eq_false (by omega)
                        have e3 : decide ((4611686018427387904 : Int) < t.count) = false := decide_eq_false (by omega)
                        have e4 : decide ((256 : Int) < (t.receipt.size : Int)) = false := decide_eq_false (by omega)
                        have e5 : decide ((256 : Int) < (t.body.size : Int)) = false := decide_eq_false (by omega)
                        have e6 : decide ((256 : Int) < (t.group.size : Int)) = true := decide_eq_true (by omega)
                        have HF := Lib.hid (all_no (p := tkOk) HX.out (tkOk_no (.inr (.inr (.inr (.inr (.inr (.inr (b6)))))))))
                        go_quiet ((go_at_call 35; exact Calls.quiet_of_same (most_any _)))
                        go_wp2_with fail
                        go_ret
                        exact ⟨by rw [HF.out, HN.out]; rfl, pw_below_drewN (below_alloc HBW.out _) _⟩
                      · have e0 : decide (t.id < 0) = false := decide_eq_false (by omega)
                        have e1 : decide ((4611686018427387904 : Int) < t.id) = false := decide_eq_false (by omega)
                        have e2 : decide (t.count < 0) = false := decide_eq_false (by omega)
                        have e3 : decide ((4611686018427387904 : Int) < t.count) = false := decide_eq_false (by omega)
                        have e4 : decide ((256 : Int) < (t.receipt.size : Int)) = false := decide_eq_false (by omega)
                        have e5 : decide ((256 : Int) < (t.body.size : Int)) = false := decide_eq_false (by omega)
                        have e6 : decide ((256 : Int) < (t.group.size : Int)) = false := decide_eq_false (by omega)
                        have HF := Lib.hid (all_snoc (p := tkOk) HK.out HX.out (tkOk_yes (by omega) (by omega) (by omega) (by omega) (by omega) (by omega) (by omega)))
                        go_quiet ((go_at_call 35; exact Calls.quiet_of_same (most_any _)))
                        go_wp2_with fail
                        go_roundw
                        case rel => exact ⟨kk + 1, by omega, by go_num, HF, pw_below_drewN (below_alloc hb _) _⟩
                        case measure => simp [intOf]; omega
        · obtain rfl : kk = a.took.length := by omega
          have HN2 : Hid (a.took.all tkOk = true) := Lib.hid (by have := HK.out; rwa [List.take_of_length_le (Nat.le_refl _)] at this)
          go_wp2_with fail
          go_ret
          exact ⟨by rw [HN.out, HN2.out]; rfl, HBW.out⟩

theorem trA_any (a : An) (A1 A2 : Option Addr) (k1 k2 : Nat) (w : World) (hI : IRead w A1 a.ids) (hT : TRead w A2 a.took) :
    Calls Tryd.prog 27 #[.agg #[.int .i64 a.code, .slice A1 a.ids.length k1, .slice A2 a.took.length k2]] w fun e w' => e = .returned (.bool (rightA a)) ∧ Below w.heap.size w w' := by
  by_cases h0 : a.code < 0
  · have : rightA a = false := by unfold rightA; rw [show numOk a.code = false by unfold numOk; exact decide_eq_false (by omega)]; rfl
    rw [this]; exact trA_low a A1 A2 k1 k2 w h0
  · by_cases h1 : 4611686018427387904 < a.code
    · have : rightA a = false := by unfold rightA; rw [show numOk a.code = false by unfold numOk; exact decide_eq_false (by omega)]; rfl
      rw [this]; exact trA_high a A1 A2 k1 k2 w (by omega) h1
    · have hn : numOk a.code = true := by unfold numOk; exact decide_eq_true (by omega)
      by_cases h2 : 10 < a.ids.length
      · have : rightA a = false := by unfold rightA; rw [hn, decide_eq_false (by omega)]; rfl
        rw [this]; exact trA_ids a A1 A2 k1 k2 w (by omega) (by omega) h2
      · by_cases h3 : 10 < a.took.length
        · have : rightA a = false := by unfold rightA; rw [hn, decide_eq_true (show a.ids.length ≤ 10 by omega), decide_eq_false (by omega)]; rfl
          rw [this]; exact trA_took a A1 A2 k1 k2 w (by omega) (by omega) (by omega) h3
        · have : rightA a = (a.ids.all numOk && a.took.all tkOk) := by unfold rightA; rw [hn, decide_eq_true (show a.ids.length ≤ 10 by omega), decide_eq_true (show a.took.length ≤ 10 by omega)]; rfl
          rw [this]; exact trA_mid a A1 A2 k1 k2 w hI hT (by omega) (by omega) (by omega) (by omega)
end Go.Proofs.YtlgippliihgcjaaDoor.C

namespace Go.Proofs.YtlgippliihgcjaaDoor.C
open Go.RowKit Go.Proofs.YtlgippliihgcjaaDoorW.PrintWords

/-- A row is appended, at a step of a region that draws its order; the slot written out. -/
theorem step_append_rowN {P : Program} {α : Type} {ops : Array Oper} {o : Oper} {a : Act} {K : Act → World → Prop} {Q : Exit → Act → World → Prop} {E : Prop} {w0 W : World} (N : Tmp) (hN : o.dst = some N) (enc : α → Value) (d : α) (base : Nat) (hw : Region.wanted o (yielded ops a.tmps) = true) (s x : Operand) (t e : TypeId) (z : Value) (bytes : Nat)
    (ho : o.op = .call { callee := .builtin .append, args := #[s, x], argTypes := #[t, t] })
    (ht : P.underlying t = some (.slice e)) (hinfo : (P.info? e).map (fun i => (i.zero, i.size, i.bytes)) = some (some z, 1, bytes)) (hz : z.cells.size = 1) (hb0 : 0 < bytes) (h1 : ∀ x : α, (enc x).oneCell' = true)
    (v : Value) (xs ys : List α) (A : Option Addr) (m c : Nat) (hs : a.eval s = v) (hx : a.eval x = .slice A m c)
    (HO : W.ownsRow base e 1 v xs.length (encs enc xs)) (HR : ReadsOf enc d W A m ys) (HB : Below base w0 W) (hbase : base ≤ W.heap.size) (hl : (xs.length + m) * bytes ≤ 140737488355328)
    (h : ∀ v1 w1, w1.ownsRow base e 1 v1 (xs ++ ys).length (encs enc (xs ++ ys)) → Below base w0 w1 → W.grownBy w1 v.ownBlock → K (a.put (some N) v1) w1) :
    if Region.wanted o (yielded ops a.tmps) = true then Oper.wp P o a W K Q else E :=
  step_append_row enc d base hw s x t e z bytes ho ht hinfo hz hb0 h1 v xs ys A m c hs hx HO HR HB hbase hl (by rw [hN]; exact h)

/-- While the document's bytes of an answer are written. -/
structure WA (w wr : World) (g : Nat) (cs : Array Value) (v : Value) (pre : List Int) : Prop where
  own : BOwn wr w.heap.size v pre
  at_ : wr.heap[g]? = some (.cells cs 61 (0, 0))
  below : Below w.heap.size w wr
theorem WA.later {w wr w' : World} {g : Nat} {cs : Array Value} {v : Value} {pre : List Int} (h : WA w wr g cs v pre) (hb : Below wr.heap.size wr w') : WA w w' g cs v pre :=
  ⟨h.own.below hb, (hb.block _ (blk_lt h.at_)).trans h.at_, h.below.trans (hb.mono h.below.size)⟩
theorem WA.append {w wr w' : World} {g : Nat} {cs : Array Value} {v v1 : Value} {pre pre' : List Int} (h : WA w wr g cs v pre) (hg : wr.grownBy w' v.ownBlock) (hb : Below w.heap.size w w') (ho : BOwn w' w.heap.size v1 pre') : WA w w' g cs v1 pre' :=
  ⟨ho, blk_grown h.at_ hg (own_ne h.own h.at_ (by decide)), hb⟩
/-- The same with a message's variable. -/
structure WX (w wr : World) (g gt : Nat) (cs : Array Value) (t : Tk) (v : Value) (pre : List Int) : Prop extends WA w wr g cs v pre where
  x : wr.heap[gt]? = some (.cells #[.int .i64 t.id, .int .i64 t.count, .string t.receipt, .string t.body, .string t.group] 113 (0, 0))
theorem WX.later {w wr w' : World} {g gt : Nat} {cs : Array Value} {t : Tk} {v : Value} {pre : List Int} (h : WX w wr g gt cs t v pre) (hb : Below wr.heap.size wr w') : WX w w' g gt cs t v pre :=
  ⟨h.toWA.later hb, (hb.block _ (blk_lt h.x)).trans h.x⟩
theorem WX.append {w wr w' : World} {g gt : Nat} {cs : Array Value} {t : Tk} {v v1 : Value} {pre pre' : List Int} (h : WX w wr g gt cs t v pre) (hg : wr.grownBy w' v.ownBlock) (hb : Below w.heap.size w w') (ho : BOwn w' w.heap.size v1 pre') : WX w w' g gt cs t v1 pre' :=
  ⟨h.toWA.append hg hb ho, blk_grown h.x hg (own_ne h.own h.x (by decide))⟩
theorem WX.cells {w wr : World} {g gt : Nat} {cs : Array Value} {t : Tk} {v : Value} {pre : List Int} (h : WX w wr g gt cs t v pre) :
    wr.cell? ⟨gt, 0, none⟩ = some (.int .i64 t.id) ∧ wr.cell? ⟨gt, 1, none⟩ = some (.int .i64 t.count) ∧ wr.cell? ⟨gt, 2, none⟩ = some (.string t.receipt) ∧ wr.cell? ⟨gt, 3, none⟩ = some (.string t.body) ∧ wr.cell? ⟨gt, 4, none⟩ = some (.string t.group) :=
  ⟨(blk_cell h.x 0).trans rfl, (blk_cell h.x 1).trans rfl, (blk_cell h.x 2).trans rfl, (blk_cell h.x 3).trans rfl, (blk_cell h.x 4).trans rfl⟩

set_option maxHeartbeats 16000000 in
set_option maxRecDepth 100000 in
theorem twA_any (a : An) (A1 A2 : Option Addr) (k1 k2 : Nat) (w : World) (hI : IRead w A1 a.ids) (hT : TRead w A2 a.took) (hr : rightA a = true) :
    Calls Tryd.prog 25 #[.agg #[.int .i64 a.code, .slice A1 a.ids.length k1, .slice A2 a.took.length k2]] w fun e w' => ∃ v, e = .returned v ∧ BOwn w' w.heap.size v (encA a) ∧ Below w.heap.size w w' := by
  obtain ⟨hc, hl1, hl2, hi, ht⟩ := rightA_n hr
  obtain ⟨hc0, hc1⟩ := numOk_iff hc
  have HI := Lib.hid hI
  have HT := Lib.hid hT
  have HIA := Lib.hid hi
  have HTA := Lib.hid ht
  have hlc := numB_len' (n := a.code.toNat) (by omega)
  have hlt9 := numB_len' (n := a.took.length) (by omega)
  have hlr : (rowB a.ids).length ≤ 100 := by
    have h3 := fm_len hi
    have h4 := numB_len' (n := a.ids.length) (by omega)
    rw [rowB, List.length_append]; omega
  have HLR := Lib.hid hlr
  have HLC := Lib.hid (And.intro hlc hlt9)
  clear hI hT hr hi ht hc hlr hlc hlt9
  go_enter Tryd.func25, Tryd.ntmps25
  go_wp2_with fail
  have hb1 := below_alloc (Below.refl w.heap.size w) (.cells #[.int .i64 a.code, .slice A1 a.ids.length k1, .slice A2 a.took.length k2] 61)
  have hg1 := heap_alloc_new w (.cells #[.int .i64 a.code, .slice A1 a.ids.length k1, .slice A2 a.took.length k2] 61)
  generalize w.alloc (.cells #[.int .i64 a.code, .slice A1 a.ids.length k1, .slice A2 a.took.length k2] 61) = w1 at hb1 hg1 ⊢
  have HB1 := Lib.hid hb1
  have HG1 := Lib.hid hg1
  have HI1 := Lib.hid (Kd.C_below HI.out (below_drew1 hb1))
  obtain ⟨g, hg⟩ : ∃ g, w.heap.size = g := ⟨_, rfl⟩
  rw [hg] at HG1 ⊢
  have HGG := Lib.hid hg
  clear hb1 hg1 hg
  have z0 : w1.cell? ⟨g, 0, none⟩ = some (.int .i64 a.code) := (blk_cell HG1.out 0).trans rfl
  have z1 : w1.cell? ⟨g, 1, none⟩ = some (.slice A1 a.ids.length k1) := (blk_cell HG1.out 1).trans rfl
  go_region_held_law (fun w' => w'.cell? ⟨g, 0, none⟩ = some (.int .i64 a.code) ∧ w'.cell? ⟨g, 1, none⟩ = some (.slice A1 a.ids.length k1))
    (first
      | exact SA4.out
      | exact SA3.out
      | exact SA2.out
      | exact ⟨z0, z1⟩)
    (first
    | (refine step_append_row (w0 := w) (Value.int .u8) 0 w.heap.size (by rfl) (.tmp 8) (.tmp 11) 30 5 (.int .u8 0) 1 (by rfl) Tryd.underlying30 info_u8 rfl (by omega) (fun _ => rfl) _ (numB a.code.toNat) (rowB a.ids) A3 _ c3 (by rfl) (by rfl) HA3.out.own HR3.out.reads HA3.out.below HA3.out.below.size (by have := HLR.out; have := HLC.out.1; omega) ?_; intro v4 w4 hown hbx hgx; have HA4 := Lib.hid (HA3.out.append hgx hbx hown); have SA4 : Hid (w4.cell? ⟨g, 0, none⟩ = some (.int .i64 a.code) ∧ w4.cell? ⟨g, 1, none⟩ = some (.slice A1 a.ids.length k1)) := Lib.hid ⟨(blk_cell HA4.out.at_ 0).trans rfl, (blk_cell HA4.out.at_ 1).trans rfl⟩; clear hown hbx hgx)
    | (go_at_call 52; refine (refNum_any a.code _ hc0 (by omega)).mono ?_; rintro e w2 ⟨v2, rfl, ho, hb⟩; have HA2 : Hid (WA w w2 g #[.int .i64 a.code, .slice A1 a.ids.length k1, .slice A2 a.took.length k2] v2 (numB a.code.toNat)) := Lib.hid ⟨ho.lower (below_drew1 HB1.out).size, (((below_drew1 (Below.refl w1.heap.size w1)).trans hb).block g (blk_lt HG1.out)).trans HG1.out, (below_drew1 HB1.out).trans (hb.mono (below_drew1 HB1.out).size)⟩; have SA2 : Hid (w2.cell? ⟨g, 0, none⟩ = some (.int .i64 a.code) ∧ w2.cell? ⟨g, 1, none⟩ = some (.slice A1 a.ids.length k1)) := Lib.hid ⟨(blk_cell HA2.out.at_ 0).trans rfl, (blk_cell HA2.out.at_ 1).trans rfl⟩; have HI2 := Lib.hid (Kd.C_below HI.out HA2.out.below); clear ho hb)
    | (go_at_call 59; refine (refNums_own A1 k1 a.ids _ HI2.out (by omega) HIA.out).mono ?_; rintro e w3 ⟨v3, rfl, ho, hb⟩; obtain ⟨A3, c3, rfl, _, hr3⟩ := ho.form; have HR3 := Lib.hid hr3; have HA3 := Lib.hid (HA2.out.later hb); have SA3 : Hid (w3.cell? ⟨g, 0, none⟩ = some (.int .i64 a.code) ∧ w3.cell? ⟨g, 1, none⟩ = some (.slice A1 a.ids.length k1)) := Lib.hid ⟨(blk_cell HA3.out.at_ 0).trans rfl, (blk_cell HA3.out.at_ 1).trans rfl⟩; clear ho hr3 hb))
  all_goals
    clear z0 z1 HI2 HA2 HA3 HR3 HI1 SA2 SA3 SA4
    have z2 : w4.cell? ⟨g, 2, none⟩ = some (.slice A2 a.took.length k2) := (blk_cell HA4.out.at_ 2).trans rfl
    go_wp2_with fail
    refine (refNum_nat a.took.length _ (by omega)).mono ?_
    rintro e w5 ⟨v5, rfl, ho, hb⟩
    obtain ⟨A5, c5, rfl, _, hr5⟩ := ho.form
    have HR5 := Lib.hid hr5
    have HA5 := Lib.hid (HA4.out.later hb)
    clear ho hr5 hb z2 HA4
    go_wp2_with (at_builtin; refine print_append_row (w0 := w) w.heap.size rfl (.tmp 13) (.tmp 17) 30 5 .u8 1 rfl Tryd.underlying30 info_u8 (by omega) _ (numB a.code.toNat ++ rowB a.ids) (numB a.took.length) A5 _ c5 rfl rfl HA5.out.own HR5.out.reads HA5.out.below HA5.out.below.size (by have := HLR.out; have := HLC.out; rw [List.length_append]; omega) ?_; intro v6 w6 hown hb9 hg9 hat9; have HA6 := Lib.hid (HA5.out.append hg9 hb9 hown); clear hown hb9 hg9 hat9)
    clear HA5 HR5
    go_loopw [3, 4] (fun b i wr => ∃ kk : Nat, kk ≤ a.took.length ∧ i = .int .i64 kk ∧ Hid (WA w wr g #[.int .i64 a.code, .slice A1 a.ids.length k1, .slice A2 a.took.length k2] b (numB a.code.toNat ++ rowB a.ids ++ numB a.took.length ++ tksB (a.took.take kk)))) (fun _ i _ => a.took.length - (intOf i).toNat)
    case atStart => exact ⟨0, by omega, rfl, Lib.hid (by have := HA6.out; rwa [← List.append_nil (numB a.code.toNat ++ rowB a.ids ++ numB a.took.length)] at this)⟩
    case round =>
      obtain ⟨kk, hk, rfl, HA⟩ := hrel
      have z2 : wr.cell? ⟨g, 2, none⟩ = some (.slice A2 a.took.length k2) := (blk_cell HA.out.at_ 2).trans rfl
      by_cases hlt : (kk : Int) < (a.took.length : Int)
      · obtain ⟨t, ht⟩ : ∃ t, a.took[kk]? = some t := ⟨_, List.getElem?_eq_getElem (by omega)⟩
        obtain ⟨ad, rfl, c0, c1, c2, c3, c4⟩ := TRead.at_ (Kd.C_below HT.out HA.out.below) ht
        have HX := Lib.hid (tksB_snoc ht)
        obtain ⟨⟨p1, p2⟩, ⟨p3, p4⟩, p5, p6, p7⟩ := tkOk_iff (all_at HTA.out ht)
        obtain ⟨pre, hpre⟩ : ∃ pre, pre = numB a.code.toNat ++ rowB a.ids ++ numB a.took.length ++ tksB (a.took.take kk) := ⟨_, rfl⟩
        have hll : pre.length ≤ 10000 := by
          have hlp := tksB_take_len HTA.out kk
          have := HLR.out
          have := HLC.out
          rw [hpre]
          simp only [List.length_append]
          omega
        rw [← hpre] at HA
        have HP := Lib.hid hpre
        have q1 := numB_len' (n := t.id.toNat) (by omega)
        have q2 := numB_len' (n := t.count.toNat) (by omega)
        have q3 := txtB_len t.receipt (by omega)
        have q4 := txtB_len t.body (by omega)
        have q5 := txtB_len t.group (by omega)
        have HQ := Lib.hid (show pre.length ≤ 10000 ∧ (numB t.id.toNat).length ≤ 9 ∧ (numB t.count.toNat).length ≤ 9 ∧ (txtB t.receipt).length ≤ 265 ∧ (txtB t.body).length ≤ 265 ∧ (txtB t.group).length ≤ 265 from ⟨hll, q1, q2, by omega, by omega, by omega⟩)
        clear ht hpre hll q1 q2 q3 q4 q5
        go_wp2_with fail
        have hbt := below_alloc (Below.refl wr.heap.size wr) (.cells #[.int .i64 t.id, .int .i64 t.count, .string t.receipt, .string t.body, .string t.group] 113)
        have HX10 : Hid (WX w (wr.alloc (.cells #[.int .i64 t.id, .int .i64 t.count, .string t.receipt, .string t.body, .string t.group] 113)) g wr.heap.size #[.int .i64 a.code, .slice A1 a.ids.length k1, .slice (some ad) a.took.length k2] t u3 pre) := Lib.hid ⟨HA.out.later hbt, heap_alloc_new _ _⟩
        clear hbt c0 c1 c2 c3 c4 z2
        generalize wr.alloc (.cells #[.int .i64 t.id, .int .i64 t.count, .string t.receipt, .string t.body, .string t.group] 113) = w10 at HX10 ⊢
        generalize wr.heap.size = gt at HX10 ⊢
        have HX11 := Lib.hid (HX10.out.later (below_drew1 (Below.refl w10.heap.size w10)))
        have S10 := Lib.hid HX10.out.cells
        obtain ⟨a0, a1, a2, a3, a4⟩ := HX10.out.cells
        go_region_held_law (fun w' => w'.cell? ⟨gt, 0, none⟩ = some (.int .i64 t.id) ∧ w'.cell? ⟨gt, 1, none⟩ = some (.int .i64 t.count) ∧ w'.cell? ⟨gt, 2, none⟩ = some (.string t.receipt) ∧ w'.cell? ⟨gt, 3, none⟩ = some (.string t.body) ∧ w'.cell? ⟨gt, 4, none⟩ = some (.string t.group))
          (first
            | exact S15.out
            | exact S14.out
            | exact S13.out
            | exact S12.out
            | exact S10.out)
          (first
            | (refine step_append_rowN (w0 := w) 35 (by rfl) (Value.int .u8) 0 w.heap.size (by rfl) (.tmp 31) (.tmp 34) 30 5 (.int .u8 0) 1 (by rfl) Tryd.underlying30 info_u8 rfl (by omega) (fun _ => rfl) _ (pre) (numB t.id.toNat) B12 _ d12 (by rfl) (by rfl) HX12.out.own HR12.out.reads HX12.out.below HX12.out.below.size (by have := HQ.out; (try simp only [List.length_append]); omega) ?_; intro v13 w13 hown hbx hgx; have HX13 := Lib.hid (HX12.out.append hgx hbx hown); have S13 := Lib.hid HX13.out.cells; clear hown hbx hgx)
            | (refine step_append_rowN (w0 := w) 39 (by rfl) (Value.int .u8) 0 w.heap.size (by rfl) (.tmp 35) (.tmp 38) 30 5 (.int .u8 0) 1 (by rfl) Tryd.underlying30 info_u8 rfl (by omega) (fun _ => rfl) _ (pre ++ numB t.id.toNat) (numB t.count.toNat) B14 _ d14 (by rfl) (by rfl) HX14.out.own HR14.out.reads HX14.out.below HX14.out.below.size (by have := HQ.out; (try simp only [List.length_append]); omega) ?_; intro v15 w15 hown hbx hgx; have HX15 := Lib.hid (HX14.out.append hgx hbx hown); have S15 := Lib.hid HX15.out.cells; clear hown hbx hgx)
            | (go_at_call_of 52 (Value.int .i64 t.id); refine (refNum_any t.id _ p1 (by omega)).mono ?_; rintro e w12 ⟨v12, rfl, ho, hb⟩; obtain ⟨B12, d12, rfl, _, hr12⟩ := ho.form; have HR12 := Lib.hid hr12; have HX12 := Lib.hid (HX11.out.later hb); have S12 := Lib.hid HX12.out.cells; clear ho hr12 hb)
            | (go_at_call_of 52 (Value.int .i64 t.count); refine (refNum_any t.count _ p3 (by omega)).mono ?_; rintro e w14 ⟨v14, rfl, ho, hb⟩; obtain ⟨B14, d14, rfl, _, hr14⟩ := ho.form; have HR14 := Lib.hid hr14; have HX14 := Lib.hid (HX13.out.later hb); have S14 := Lib.hid HX14.out.cells; clear ho hr14 hb))
        go_wp2_with fail
        clear a0 a1 a2 a3 a4 HX10 HX11 HX12 HX13 HX14 HR12 HR14 S10 S12 S13 S14 S15
        have HX16 := Lib.hid (HX15.out.later (below_drew1 (Below.refl w15.heap.size w15)))
        have S15 := Lib.hid HX15.out.cells
        obtain ⟨a0, a1, a2, a3, a4⟩ := HX15.out.cells
        go_region_held_law (fun w' => w'.cell? ⟨gt, 0, none⟩ = some (.int .i64 t.id) ∧ w'.cell? ⟨gt, 1, none⟩ = some (.int .i64 t.count) ∧ w'.cell? ⟨gt, 2, none⟩ = some (.string t.receipt) ∧ w'.cell? ⟨gt, 3, none⟩ = some (.string t.body) ∧ w'.cell? ⟨gt, 4, none⟩ = some (.string t.group))
          (first
            | exact S22.out
            | exact S21.out
            | exact S20.out
            | exact S19.out
            | exact S18.out
            | exact S17.out
            | exact S15.out)
          (first
            | (refine step_append_rowN (w0 := w) 44 (by rfl) (Value.int .u8) 0 w.heap.size (by rfl) (.tmp 40) (.tmp 43) 30 5 (.int .u8 0) 1 (by rfl) Tryd.underlying30 info_u8 rfl (by omega) (fun _ => rfl) _ (pre ++ numB t.id.toNat ++ numB t.count.toNat) (txtB t.receipt) B17 _ d17 (by rfl) (by rfl) HX17.out.own HR17.out.reads HX17.out.below HX17.out.below.size (by have := HQ.out; (try simp only [List.length_append]); omega) ?_; intro v18 w18 hown hbx hgx; have HX18 := Lib.hid (HX17.out.append hgx hbx hown); have S18 := Lib.hid HX18.out.cells; clear hown hbx hgx)
            | (refine step_append_rowN (w0 := w) 48 (by rfl) (Value.int .u8) 0 w.heap.size (by rfl) (.tmp 44) (.tmp 47) 30 5 (.int .u8 0) 1 (by rfl) Tryd.underlying30 info_u8 rfl (by omega) (fun _ => rfl) _ (pre ++ numB t.id.toNat ++ numB t.count.toNat ++ txtB t.receipt) (txtB t.body) B19 _ d19 (by rfl) (by rfl) HX19.out.own HR19.out.reads HX19.out.below HX19.out.below.size (by have := HQ.out; (try simp only [List.length_append]); omega) ?_; intro v20 w20 hown hbx hgx; have HX20 := Lib.hid (HX19.out.append hgx hbx hown); have S20 := Lib.hid HX20.out.cells; clear hown hbx hgx)
            | (refine step_append_rowN (w0 := w) 52 (by rfl) (Value.int .u8) 0 w.heap.size (by rfl) (.tmp 48) (.tmp 51) 30 5 (.int .u8 0) 1 (by rfl) Tryd.underlying30 info_u8 rfl (by omega) (fun _ => rfl) _ (pre ++ numB t.id.toNat ++ numB t.count.toNat ++ txtB t.receipt ++ txtB t.body) (txtB t.group) B21 _ d21 (by rfl) (by rfl) HX21.out.own HR21.out.reads HX21.out.below HX21.out.below.size (by have := HQ.out; (try simp only [List.length_append]); omega) ?_; intro v22 w22 hown hbx hgx; have HX22 := Lib.hid (HX21.out.append hgx hbx hown); have S22 := Lib.hid HX22.out.cells; clear hown hbx hgx)
            | (go_at_call_of 53 (Value.string t.receipt); refine (refText_own t.receipt _ (by omega)).mono ?_; rintro e w17 ⟨v17, rfl, ho, hb⟩; obtain ⟨B17, d17, rfl, _, hr17⟩ := ho.form; have HR17 := Lib.hid hr17; have HX17 := Lib.hid (HX16.out.later hb); have S17 := Lib.hid HX17.out.cells; clear ho hr17 hb)
            | (go_at_call_of 53 (Value.string t.body); refine (refText_own t.body _ (by omega)).mono ?_; rintro e w19 ⟨v19, rfl, ho, hb⟩; obtain ⟨B19, d19, rfl, _, hr19⟩ := ho.form; have HR19 := Lib.hid hr19; have HX19 := Lib.hid (HX18.out.later hb); have S19 := Lib.hid HX19.out.cells; clear ho hr19 hb)
            | (go_at_call_of 53 (Value.string t.group); refine (refText_own t.group _ (by omega)).mono ?_; rintro e w21 ⟨v21, rfl, ho, hb⟩; obtain ⟨B21, d21, rfl, _, hr21⟩ := ho.form; have HR21 := Lib.hid hr21; have HX21 := Lib.hid (HX20.out.later hb); have S21 := Lib.hid HX21.out.cells; clear ho hr21 hb))
        go_wp2_with fail
        have HF : Hid (WA w w22 g #[.int .i64 a.code, .slice A1 a.ids.length k1, .slice (some ad) a.took.length k2] v22 (numB a.code.toNat ++ rowB a.ids ++ numB a.took.length ++ tksB (a.took.take (kk + 1)))) := Lib.hid (by
          have := HX22.out.toWA
          rw [HX.out, tkB]
          rw [HP.out] at this
          simpa only [List.append_assoc] using this)
        go_roundw
        case rel => exact ⟨kk + 1, by omega, by go_num, HF⟩
        case measure => simp [intOf]; omega
      · obtain rfl : kk = a.took.length := by omega
        go_wp2_with fail
        go_ret
        exact ⟨_, rfl, by have := HA.out.own; rw [List.take_length] at this; exact this, HA.out.below⟩
end Go.Proofs.YtlgippliihgcjaaDoor.C

