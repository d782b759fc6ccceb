/- The document's reader, piece by piece. -/
import Derived.Test.YtlgippliihgcjaaDoorS2
import Derived.Laws.ResultCell
import Derived.Deep.QuietTactic
import Derived.BigQuiet
namespace Go.Proofs.YtlgippliihgcjaaDoor.C
set_option linter.unusedVariables false
set_option linter.unusedSimpArgs false
open Go.RowKit Go.Proofs.YtlgippliihgcjaaDoorW.PrintWords

theorem refRead_s (A : Option Addr) (cp p : Nat) (bs : List Int) (w : World) (h : BRead w A bs) (hby : Bytes bs) (hp : p ≤ bs.length) (hl : bs.length ≤ 70368744177664) :
    Calls Tryd.prog 78 #[.slice A bs.length cp, .int .i64 p] w fun e w' => e = .returned (.tuple #[.int .i64 (stN bs ⟨p, 0⟩).2, .int .i64 (stN bs ⟨p, 0⟩).1.p, .int .i64 (stN bs ⟨p, 0⟩).1.code]) ∧ w = w' := by
  refine (refRead_any A cp p bs w h hby hp hl).mono ?_
  rintro e w' ⟨rfl, rfl⟩
  refine ⟨?_, rfl⟩
  unfold stN
  rw [if_pos rfl]
  by_cases h0 : (readN bs p).1 = 0
  · rw [if_pos h0, if_pos h0, h0]
  · rw [if_neg h0, if_neg h0]

/-- A reader of the document's, as it is handed on. -/
def rdV (A : Option Addr) (n cp : Nat) (s : RS) : Value := .agg #[.slice A n cp, .int .i64 s.p, .int .i64 s.code]

set_option maxHeartbeats 4000000 in
set_option maxRecDepth 100000 in
theorem tnum_any (A : Option Addr) (cp : Nat) (s : RS) (bs : List Int) (w : World) (h : BRead w A bs) (hby : Bytes bs) (hp : s.p ≤ bs.length) (hl : bs.length ≤ 70368744177664) :
    Calls Tryd.prog 54 #[rdV A bs.length cp s] w fun e w' => e = .returned (.tuple #[rdV A bs.length cp (stN bs s).1, .int .i64 (stN bs s).2]) ∧ Below w.heap.size w w' := by
  by_cases hc : s.code = 0
  · obtain ⟨p, code⟩ := s
    simp only at hc
    subst hc
    have HR := Lib.hid (fun (o1 o2 : Obj) => refRead_s A cp p bs ((w.alloc o1).alloc o2) (h.below (below_alloc (below_alloc (Below.refl w.heap.size w) o1) o2)) hby hp hl)
    unfold rdV at HR ⊢
    generalize stN bs ⟨p, 0⟩ = r at HR ⊢
    obtain ⟨⟨p2, c2⟩, n2⟩ := r
    clear h hby
    go_enter Tryd.func54, Tryd.ntmps54
    go_wp2_with fail
    refine (HR.out _ _).mono ?_
    rintro e w' ⟨rfl, rfl⟩
    go_wp2_with fail
    refine bodyPost_ret (v := .tuple #[.agg #[.slice A bs.length cp, .int .i64 p2, .int .i64 c2], .int .i64 n2]) (by simp [results, Tryd.results54, go_sem]) rfl ⟨rfl, ?_⟩
    exact below_alloc (below_alloc (Below.refl _ _) _) _
  · have e : stN bs s = (s, 0) := by unfold stN; rw [if_neg hc]
    rw [e]
    unfold rdV
    obtain ⟨p, code⟩ := s
    simp only at hc ⊢
    have hne : (code != 0) = true := by simpa using hc
    clear hc e h hby
    go_enter Tryd.func54, Tryd.ntmps54
    go_wp2_with fail
    refine bodyPost_ret (v := .tuple #[.agg #[.slice A bs.length cp, .int .i64 p, .int .i64 code], .int .i64 0]) (by simp [results, Tryd.results54, go_sem]) rfl ⟨rfl, ?_⟩
    exact below_alloc (below_alloc (Below.refl _ _) _) _

set_option maxHeartbeats 4000000 in
set_option maxRecDepth 100000 in
theorem ttext_any (A : Option Addr) (cp : Nat) (s : RS) (bs : List Int) (w : World) (h : BRead w A bs) (hby : Bytes bs) (hp : s.p ≤ bs.length) (hl : bs.length ≤ 70368744177664) (hcap : bs.length ≤ cp) :
    Calls Tryd.prog 55 #[rdV A bs.length cp s] w fun e w' => e = .returned (.tuple #[rdV A bs.length cp (stT bs 256 s).1, .string (stT bs 256 s).2]) ∧ Below w.heap.size w w' := by
  by_cases hc : s.code = 0
  · obtain ⟨p, code⟩ := s
    simp only at hc
    subst hc
    have hr := fun (o1 o2 : Obj) => refText_any A cp p 256 bs ((w.alloc o1).alloc o2) (h.below (below_alloc (below_alloc (Below.refl w.heap.size w) o1) o2)) hby hp hl hcap
    unfold TextTold at hr
    have HR := Lib.hid hr
    clear hr
    unfold rdV at HR ⊢
    generalize stT bs 256 ⟨p, 0⟩ = r at HR ⊢
    obtain ⟨⟨p2, c2⟩, n2⟩ := r
    clear h hby
    go_enter Tryd.func55, Tryd.ntmps55
    go_wp2_with fail
    refine (HR.out _ _).mono ?_
    rintro e w' ⟨rfl, rfl⟩
    go_wp2_with fail
    refine bodyPost_ret (v := .tuple #[.agg #[.slice A bs.length cp, .int .i64 p2, .int .i64 c2], .string n2]) (by simp [results, Tryd.results55, go_sem]) rfl ⟨rfl, ?_⟩
    exact below_alloc (below_alloc (Below.refl _ _) _) _
  · have e : stT bs 256 s = (s, ByteArray.empty) := by unfold stT; rw [if_neg hc]
    rw [e]
    unfold rdV
    obtain ⟨p, code⟩ := s
    simp only at hc ⊢
    have hne : (code != 0) = true := by simpa using hc
    clear hc e h hby
    go_enter Tryd.func55, Tryd.ntmps55
    go_wp2_with fail
    refine bodyPost_ret (v := .tuple #[.agg #[.slice A bs.length cp, .int .i64 p, .int .i64 code], .string ⟨#[]⟩]) (by simp [results, Tryd.results55, go_sem]) rfl ⟨rfl, ?_⟩
    exact below_alloc (below_alloc (Below.refl _ _) _) _

set_option maxHeartbeats 4000000 in
set_option maxRecDepth 100000 in
theorem tdone_any (A : Option Addr) (cp : Nat) (s : RS) (bs : List Int) (w : World) (hl : bs.length ≤ 70368744177664) (hp : s.p ≤ bs.length) :
    Calls Tryd.prog 56 #[rdV A bs.length cp s] w fun e w' => e = .returned (.int .i64 (stD bs s)) ∧ Below w.heap.size w w' := by
  obtain ⟨p, code⟩ := s
  unfold rdV stD
  by_cases hc : code = 0
  · simp only [hc]
    rw [if_pos True.intro]
    by_cases hlt : (p : Int) < (bs.length : Int)
    · rw [if_pos (by omega)]
      go_enter Tryd.func56, Tryd.ntmps56
      go_wp2_with fail
      go_ret
      exact ⟨rfl, below_alloc (Below.refl _ _) _⟩
    · rw [if_neg (by omega)]
      go_enter Tryd.func56, Tryd.ntmps56
      go_wp2_with fail
      go_ret
      exact ⟨rfl, below_alloc (Below.refl _ _) _⟩
  · simp only
    rw [if_neg hc]
    have hne : (code == 0) = false := by simpa using hc
    clear hc
    go_enter Tryd.func56, Tryd.ntmps56
    go_wp2_with fail
    go_ret
    exact ⟨rfl, below_alloc (Below.refl _ _) _⟩
end Go.Proofs.YtlgippliihgcjaaDoor.C
