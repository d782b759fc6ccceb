/- bytes.Equal. -/
import Derived.Test.YtlgippliihgcjaaDoorC4
namespace Go.Proofs.YtlgippliihgcjaaDoor.C
set_option linter.unusedVariables false
set_option linter.unusedSimpArgs false
open Go.RowKit Go.Proofs.YtlgippliihgcjaaDoorW.PrintWords

theorem strOfNums_inj {a b : List Int} (ha : ∀ x ∈ a, (0 : Int) ≤ x ∧ x < 256) (hb : ∀ x ∈ b, (0 : Int) ≤ x ∧ x < 256) (h : (strOfNums a).toList = (strOfNums b).toList) : a = b := by
  have h2 : (a.map fun n => UInt8.ofNat n.toNat) = (b.map fun n => UInt8.ofNat n.toNat) := by
    have : ∀ l : List Int, (strOfNums l).toList = l.map fun n => UInt8.ofNat n.toNat := by
      intro l
      rw [ByteArray.toList_eq]
      simp [strOfNums]
    rwa [this, this] at h
  have h3 : a.length = b.length := by simpa using congrArg List.length h2
  apply List.ext_getElem h3
  intro i h4 h5
  have h6 : (a.map fun n => UInt8.ofNat n.toNat)[i]'(by simpa using h4) = (b.map fun n => UInt8.ofNat n.toNat)[i]'(by simpa using h5) := by simp only [h2]
  rw [List.getElem_map, List.getElem_map] at h6
  have h7 := congrArg UInt8.toNat h6
  have b1 := ha a[i] (List.getElem_mem h4)
  have b2 := hb b[i] (List.getElem_mem h5)
  simp only [UInt8.toNat_ofNat'] at h7
  omega

set_option maxHeartbeats 1000000 in
set_option maxRecDepth 100000 in
theorem bEq_any (A B : Option Addr) (c d : Nat) (xs bs : List Int) (w : World) (ha : BRead w A xs) (hb : BRead w B bs) (hya : ∀ x ∈ xs, (0 : Int) ≤ x ∧ x < 256) (hyb : ∀ x ∈ bs, (0 : Int) ≤ x ∧ x < 256) :
    Calls Tryd.prog 16 #[.slice A xs.length c, .slice B bs.length d] w fun e w' => e = .returned (.bool (decide (xs = bs))) ∧ w = w' := by
  have h1 := Kd.C_string (P := Tryd.prog) (c := c) Tryd.underlying30 Tryd.underlying5 Tryd.underlying9 ha
  have h2 := Kd.C_string (P := Tryd.prog) (c := d) Tryd.underlying30 Tryd.underlying5 Tryd.underlying9 hb
  have hq : decide (xs = bs) = ((strOfNums xs).toList == (strOfNums bs).toList) := by
    by_cases h : xs = bs
    · subst h; simp
    · rw [decide_eq_false h]
      symm
      rw [beq_eq_false_iff_ne]
      exact fun e => h (strOfNums_inj hya hyb e)
  have HQ := Lib.hid hq
  clear ha hb hya hyb hq
  go_enter Tryd.func16, Tryd.ntmps16
  go_wp2_with fail
  go_ret
  exact ⟨by rw [HQ.out]; rfl, rfl⟩

end Go.Proofs.YtlgippliihgcjaaDoor.C
