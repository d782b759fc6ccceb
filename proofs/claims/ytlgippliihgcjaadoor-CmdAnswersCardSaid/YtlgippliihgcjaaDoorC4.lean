/- slices.Clone of bytes, coil.Num, coil.Text, coil.Nums. -/
import Derived.Test.YtlgippliihgcjaaDoorC0
import Derived.WalkSpells
namespace Go.Proofs.YtlgippliihgcjaaDoor.C
set_option linter.unusedVariables false
set_option linter.unusedSimpArgs false
open Go.RowKit Go.Proofs.YtlgippliihgcjaaDoorW.PrintWords

theorem info_u8 : (Tryd.prog.info? 5).map (fun i => (i.zero, i.size, i.bytes)) = some (some (.int .u8 0), 1, 1) := by kernel_rfl

/-- A slice of bytes that is read: nil, or not. -/
abbrev BRead (w : World) (A : Option Addr) (bs : List Int) : Prop := (Kd.int .u8).C w A bs.length bs
/-- A slice of bytes of the call's own. -/
abbrev BOwn (w : World) (base : Nat) (v : Value) (bs : List Int) : Prop := w.ownsRow base 5 1 v bs.length (nums .u8 bs)

theorem BOwn.nil (w : World) (base : Nat) : BOwn w base (.slice none 0 0) [] := own_nil w base _ 1
theorem BOwn.below {w w1 : World} {base : Nat} {v : Value} {bs : List Int} (h : BOwn w base v bs) (hb : Below w.heap.size w w1) : BOwn w1 base v bs := pw_own_below h hb
theorem BOwn.lower {w : World} {base base' : Nat} {v : Value} {bs : List Int} (h : BOwn w base v bs) (hb : base' ≤ base) : BOwn w base' v bs := own_weaken h hb
theorem BOwn.R {w : World} {base : Nat} {v : Value} {bs : List Int} (h : BOwn w base v bs) : (Kd.int .u8).R 5 w base (fun _ => True) v bs := Kd.R_of_own (enc := Value.int .u8) h (fun _ _ => trivial)
theorem BOwn.of {w : World} {base : Nat} {ok : Nat → Prop} {v : Value} {bs : List Int} (h : (Kd.int .u8).R 5 w base ok v bs) : BOwn w base v bs := Kd.own_of_R (enc := Value.int .u8) h
theorem BOwn.form {w : World} {base : Nat} {v : Value} {bs : List Int} (h : BOwn w base v bs) : ∃ A c, v = .slice A bs.length c ∧ bs.length ≤ c ∧ BRead w A bs := by
  obtain ⟨A, c, e, hl, hc⟩ := Kd.R_reads h.R
  exact ⟨A, c, e, hl, hc⟩
theorem BRead.reads {w : World} {A : Option Addr} {bs : List Int} (h : BRead w A bs) : ReadsInt w .u8 A bs.length bs := Kd.reads_of_C (d := 0) h
theorem BRead.below {w w1 : World} {A : Option Addr} {bs : List Int} (h : BRead w A bs) (hb : Below w.heap.size w w1) : BRead w1 A bs := Kd.C_below h hb
theorem BRead.len {w : World} {A : Option Addr} {bs : List Int} (h : BRead w A bs) : bs.length ≤ 9223372036854775807 := Kd.C_max h

set_option maxHeartbeats 1000000 in
set_option maxRecDepth 100000 in
theorem clone_any (A : Option Addr) (c : Nat) (bs : List Int) (w : World) (h : BRead w A bs) (hl : bs.length ≤ 140737488355328) :
    Calls Tryd.prog 67 #[.slice A bs.length c] w fun e w' => ∃ v, e = .returned v ∧ BOwn w' w.heap.size v bs ∧ Below w.heap.size w w' := by
  have H := Lib.hid h
  clear h
  cases A with
  | none =>
    have hb : bs = [] := by
      rcases Nat.eq_zero_or_pos bs.length with h0 | h0
      · exact List.eq_nil_of_length_eq_zero h0
      · obtain ⟨ad, e, _⟩ := H.out.2.2 h0; cases e
    subst hb
    have he := fun c => Lib.run_eql_slice_nil (P := Tryd.prog) w 30 5 none 0 c 0 0 Tryd.underlying30
    go_enter Tryd.func67, Tryd.ntmps67
    go_wp2
    go_ret
    exact ⟨_, rfl, BOwn.nil _ _, Below.refl _ _⟩
  | some ad =>
    have he := Lib.run_eql_slice_nil (P := Tryd.prog) w 30 5 (some ad) bs.length c 0 0 Tryd.underlying30
    go_enter Tryd.func67, Tryd.ntmps67
    go_wp2_with (at_builtin; refine print_append_row (w0 := w) w.heap.size rfl (.tmp 5) (.tmp 6) 30 5 .u8 1 rfl Tryd.underlying30 info_u8 (by omega) (.slice (some ⟨w.heap.size, 0, none⟩) 0 0) [] bs (some ad) bs.length c rfl rfl ?hO ?hR ?hB (by simp) (by simp; omega) ?_; (case hO => exact own_lit w w.heap.size _ .u8 [] (Nat.le_refl _) (by simp)); (case hR => exact (H.out.below (below_alloc (Below.refl _ _) _)).reads); (case hB => exact below_alloc (Below.refl _ _) _); intro v1 w1 hown hb1 hg1 hat1; have HO := Lib.hid hown; have HB := Lib.hid hb1; clear hown hb1 hg1 hat1)
    go_ret
    exact ⟨_, rfl, by simpa using HO.out, HB.out⟩

end Go.Proofs.YtlgippliihgcjaaDoor.C
