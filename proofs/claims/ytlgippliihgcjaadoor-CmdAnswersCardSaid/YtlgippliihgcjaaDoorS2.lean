/- The document's reader of a text, and its places in a row. -/
import Derived.Test.YtlgippliihgcjaaDoorS1
namespace Go.Proofs.YtlgippliihgcjaaDoor.C
set_option linter.unusedVariables false
set_option linter.unusedSimpArgs false
open Go.RowKit Go.Proofs.YtlgippliihgcjaaDoorW.PrintWords

/-- What the document's reader of a text tells. -/
def TextTold (bs : List Int) (most p : Nat) (w : World) (e : Ending) (w' : World) : Prop :=
  e = .returned (.tuple #[.string (stT bs most ⟨p, 0⟩).2, .int .i64 (stT bs most ⟨p, 0⟩).1.p, .int .i64 (stT bs most ⟨p, 0⟩).1.code]) ∧ w = w'

theorem stT_no {bs : List Int} {most p : Nat} (h : (readN bs p).1 ≠ 0) : stT bs most ⟨p, 0⟩ = (⟨p, (readN bs p).1⟩, ByteArray.empty) := by
  unfold stT; rw [if_pos rfl, if_neg h]
theorem stT_much {bs : List Int} {most p : Nat} (h : (readN bs p).1 = 0) (hm : most < (readN bs p).2.1) : stT bs most ⟨p, 0⟩ = (⟨p, 2⟩, ByteArray.empty) := by
  unfold stT; rw [if_pos rfl, if_pos h, if_pos hm]
theorem stT_end {bs : List Int} {most p : Nat} (h : (readN bs p).1 = 0) (hm : ¬ most < (readN bs p).2.1) (hl : bs.length - (readN bs p).2.2 < (readN bs p).2.1) : stT bs most ⟨p, 0⟩ = (⟨p, 3⟩, ByteArray.empty) := by
  unfold stT; rw [if_pos rfl, if_pos h, if_neg hm, if_pos hl]
theorem stT_yes {bs : List Int} {most p : Nat} (h : (readN bs p).1 = 0) (hm : ¬ most < (readN bs p).2.1) (hl : ¬ bs.length - (readN bs p).2.2 < (readN bs p).2.1) : stT bs most ⟨p, 0⟩ = (⟨(readN bs p).2.2 + (readN bs p).2.1, 0⟩, strOfNums ((bs.drop (readN bs p).2.2).take (readN bs p).2.1)) := by
  unfold stT; rw [if_pos rfl, if_pos h, if_neg hm, if_neg hl]

set_option maxHeartbeats 4000000 in
set_option maxRecDepth 100000 in
theorem refText_any (A : Option Addr) (cp p most : Nat) (bs : List Int) (w : World) (h : BRead w A bs) (hby : Bytes bs) (hp : p ≤ bs.length) (hl : bs.length ≤ 70368744177664) (hcap : bs.length ≤ cp) :
    Calls Tryd.prog 79 #[.slice A bs.length cp, .int .i64 p, .int .i64 most] w (TextTold bs most p w) := by
  have HD := Lib.hid h
  have HR := Lib.hid (refRead_any A cp p bs w h hby hp hl)
  have hq := readN_le hp
  have hnb := readN_bound bs p
  clear h hby
  go_enter Tryd.func79, Tryd.ntmps79
  go_wp2_with fail
  refine HR.out.mono ?_
  rintro e w' ⟨rfl, rfl⟩
  by_cases h0 : (readN bs p).1 = 0
  · rw [if_pos h0]
    have H0 := Lib.hid h0
    rw [h0]
    clear h0
    obtain ⟨n, hn⟩ : ∃ n, n = (readN bs p).2.1 := ⟨_, rfl⟩
    obtain ⟨q, hqq⟩ : ∃ q, q = (readN bs p).2.2 := ⟨_, rfl⟩
    rw [← hn, ← hqq]
    rw [← hn] at hnb
    rw [← hqq] at hq
    have HN := Lib.hid hn
    have HQ := Lib.hid hqq
    clear hn hqq HR
    by_cases hm : (most : Int) < (n : Int)
    · go_wp2_with fail
      go_ret3
      unfold TextTold
      rw [stT_much H0.out (by rw [← HN.out]; omega)]
      exact ⟨rfl, rfl⟩
    · by_cases hle : (bs.length : Int) - (q : Int) < (n : Int)
      · go_wp2_with fail
        go_ret3
        unfold TextTold
        rw [stT_end H0.out (by rw [← HN.out]; omega) (by rw [← HN.out, ← HQ.out]; omega)]
        exact ⟨rfl, rfl⟩
      · obtain ⟨A', c', hsl, hcv⟩ := cut_bytes A bs.length cp q n bs (by omega) hcap rfl
        have HC := Lib.hid (hcv w HD.out)
        have hcv := HC.out
        have h63 : (q : Int) + n ≤ 9223372036854775807 := by omega
        go_wp2_with fail
        go_ret3
        unfold TextTold
        rw [stT_yes H0.out (by rw [← HN.out]; omega) (by rw [← HN.out, ← HQ.out]; omega), ← HN.out, ← HQ.out]
        exact ⟨rfl, rfl⟩
  · rw [if_neg h0]
    obtain ⟨cd, hcd⟩ : ∃ cd, cd = (readN bs p).1 := ⟨_, rfl⟩
    rw [← hcd] at h0 ⊢
    have hne : (cd != 0) = true := by simpa using h0
    have HC := Lib.hid hcd
    have H0 := Lib.hid h0
    clear hcd h0 HR
    go_wp2_with fail
    go_ret3
    unfold TextTold
    rw [stT_no (by rw [← HC.out]; exact H0.out), ← HC.out]
    exact ⟨rfl, rfl⟩

end Go.Proofs.YtlgippliihgcjaaDoor.C
