/- cmd.Read. -/
import Derived.Test.YtlgippliihgcjaaDoorR7
import Derived.Test.YtlgippliihgcjaaDoorR8
import Derived.Test.YtlgippliihgcjaaDoorWMore
import Derived.Deep.RegionLaw
import Derived.Laws.ResultCell
import Derived.Deep.DeepCutAuto
namespace Go.Proofs.YtlgippliihgcjaaDoor.C
set_option linter.unusedVariables false
set_option linter.unusedSimpArgs false
open Go.RowKit Go.Proofs.YtlgippliihgcjaaDoorW.PrintWords Go.Proofs.YtlgippliihgcjaaDoorW.PrintMore
attribute [local go_sem] min2_int min_two

theorem info_str : (Tryd.prog.info? 9).map (fun i => (i.zero, i.size, i.bytes)) = some (some (.string ⟨#[]⟩), 1, 16) := by kernel_rfl
/-- A slice of texts of the call's own. -/
abbrev SOwn (w : World) (base : Nat) (v : Value) (l : List ByteArray) : Prop := w.ownsRow base 9 1 v l.length (encs Value.string l)
theorem SOwn.nil (w : World) (base : Nat) : SOwn w base (.slice none 0 0) [] := own_nil w base _ 1
theorem SOwn.below {w w1 : World} {base : Nat} {v : Value} {l : List ByteArray} (h : SOwn w base v l) (hb : Below w.heap.size w w1) : SOwn w1 base v l := pw_own_below h hb
theorem SOwn.lower {w : World} {base base' : Nat} {v : Value} {l : List ByteArray} (h : SOwn w base v l) (hb : base' ≤ base) : SOwn w base' v l := own_weaken h hb
theorem SOwn.R {w : World} {base : Nat} {v : Value} {l : List ByteArray} (h : SOwn w base v l) : Kd.string.R 9 w base (fun _ => True) v l := Kd.R_of_own (enc := Value.string) h (fun _ _ => trivial)
theorem SOwn.form {w : World} {base : Nat} {v : Value} {l : List ByteArray} (h : SOwn w base v l) : ∃ A c, v = .slice A l.length c ∧ l.length ≤ c ∧ Kd.string.C w A l.length l := by
  obtain ⟨A, c, e, hl, hc⟩ := Kd.R_reads h.R
  exact ⟨A, c, e, hl, hc⟩

/-- A command in memory. -/
def CmAt (w : World) (g : Nat) (c : Cm) (bv : Value) : Prop := w.heap[g]? = some (.cells (cvR c bv) 26 (0, 0))

theorem CmAt.grownR {w w1 : World} {g gr : Nat} {c : Cm} {bv : Value} {cs : Array Value} (h : CmAt w g c bv) (hg : w.heap[gr]? = some (.cells cs 144 (0, 0))) (k : w.grownBy w1 (some gr)) : CmAt w1 g c bv :=
  (k.block g (blk_lt h) (fun e => by injection e with e; subst e; unfold CmAt at h; rw [h] at hg; injection hg with hg; injection hg with _ hg; exact absurd hg (by decide))).trans h
theorem Rd.block {w : World} {base g : Nat} {p a_ code : Int} {bs : List Int} (h : Rd w base g p a_ code bs) : ∃ cs, w.heap[g]? = some (.cells cs 144 (0, 0)) := by
  obtain ⟨_, _, _, x2, _, _⟩ := h
  exact ⟨_, x2⟩
/-- A store into a command leaves a reader as it is. -/
theorem RdS.setCm {w : World} {base gr g : Nat} {bs : List Int} {s : RS} {cs : Array Value} (h : RdS w base gr bs s) (hg : w.heap[g]? = some (.cells cs 26 (0, 0))) (o : Nat) (v : Value) : RdS (w.setCell ⟨g, o, none⟩ v) base gr bs s := by
  obtain ⟨a_, x1, ev, bv, x2, x3, x4⟩ := h
  refine ⟨a_, x1, ev, bv, blk_far x2 (p := ⟨g, o, none⟩) (blk_ne x2 hg (by decide)) v, own_setCell x3 (p := ⟨g, o, none⟩) (own_ne x3 hg (by decide)) v, ?_⟩
  rcases x4 with x4 | ⟨x5, b, e, x6, x7⟩
  · exact .inl x4
  · exact .inr ⟨x5, b, e, x6, blk_far x7 (p := ⟨g, o, none⟩) (blk_ne x7 hg (by decide)) v⟩

/-- While a command is read: the reader gr, the command g, the result's variable (the first new block). -/
structure RdInv (w wr : World) (g gr : Nat) (bs : List Int) (s : RS) (cm : Cm) (bv : Value) : Prop where
  rd : RdS wr w.heap.size gr bs s
  res : CmAt wr w.heap.size zeroCm (.slice none 0 0)
  at_ : CmAt wr g cm bv
  below : Below w.heap.size w wr
  base : w.heap.size ≤ g
  ne : w.heap.size ≠ g
  own : SOwn wr w.heap.size bv cm.bodies

theorem RdInv.later {w wr w' : World} {g gr : Nat} {bs : List Int} {s : RS} {cm : Cm} {bv : Value} (h : RdInv w wr g gr bs s cm bv) (hb : Below wr.heap.size wr w') : RdInv w w' g gr bs s cm bv :=
  ⟨h.rd.below hb, (hb.block _ (blk_lt h.res)).trans h.res, (hb.block _ (blk_lt h.at_)).trans h.at_, h.below.trans (hb.mono h.below.size), h.base, h.ne, h.own.below hb⟩
theorem RdInv.read {w wr w' : World} {g gr : Nat} {bs : List Int} {s s' : RS} {cm : Cm} {bv : Value} (h : RdInv w wr g gr bs s cm bv) (hr : RdS w' w.heap.size gr bs s') (hg : wr.grownBy w' (some gr)) : RdInv w w' g gr bs s' cm bv := by
  obtain ⟨a_, h1⟩ := h.rd
  obtain ⟨cs, hc⟩ := h1.block
  exact ⟨hr, h.res.grownR hc hg, h.at_.grownR hc hg, below_grown h.below h.below.size hg h1.1, h.base, h.ne, own_other h.own hg (.inr (fun e => own_ne h.own hc (by decide) e.symm))⟩
theorem RdInv.store {w wr : World} {g gr : Nat} {bs : List Int} {s : RS} {cm cm' : Cm} {bv : Value} (h : RdInv w wr g gr bs s cm bv) (o : Nat) (v : Value) (he : (cvR cm bv).setIfInBounds o v = cvR cm' bv) (hb : cm'.bodies = cm.bodies) : RdInv w (wr.setCell ⟨g, o, none⟩ v) g gr bs s cm' bv := by
  refine ⟨h.rd.setCm h.at_ o v, blk_far h.res (p := ⟨g, o, none⟩) h.ne v, ?_, h.below.setCell (p := ⟨g, o, none⟩) h.base v, h.base, h.ne, ?_⟩
  · have := blk_set h.at_ o v
    rw [he] at this
    exact this
  · rw [hb]; exact own_setCell h.own (p := ⟨g, o, none⟩) (own_ne h.own h.at_ (by decide)) v
theorem RdInv.cell {w wr : World} {g gr : Nat} {bs : List Int} {s : RS} {cm : Cm} {bv : Value} (h : RdInv w wr g gr bs s cm bv) (o : Nat) : wr.cell? ⟨g, o, none⟩ = (cvR cm bv)[o]? := blk_cell h.at_ o
theorem RdInv.free {w wr : World} {g gr : Nat} {bs : List Int} {s : RS} {cm : Cm} {bv : Value} (h : RdInv w wr g gr bs s cm bv) (o : Nat) : wr.frozen? ⟨g, o, none⟩ = false := blk_frozen h.at_ o

theorem Rd.appendS {w w1 : World} {base g : Nat} {p a_ code : Int} {bs : List Int} {b0 : Nat} {v : Value} {l : List ByteArray} (h : Rd w base g p a_ code bs) (hv : SOwn w b0 v l) (hg : w.grownBy w1 v.ownBlock) : Rd w1 base g p a_ code bs := by
  obtain ⟨x1, ev, bv, x2, x3, x4⟩ := h
  refine ⟨x1, ev, bv, blk_grown x2 hg (own_ne hv x2 (by decide)), own_other x3 hg (own_type_ne x3 hv (by decide)), ?_⟩
  rcases x4 with x4 | ⟨x5, b, e, x6, x7⟩
  · exact .inl x4
  · exact .inr ⟨x5, b, e, x6, blk_grown x7 hg (own_ne hv x7 (by decide))⟩
theorem RdInv.append {w wr w1 : World} {g gr : Nat} {bs : List Int} {s : RS} {cm cm' : Cm} {bv v1 : Value} (h : RdInv w wr g gr bs s cm bv) (hg : wr.grownBy w1 bv.ownBlock) (hb : Below w.heap.size wr w1) (ho : SOwn w1 w.heap.size v1 cm'.bodies) (he : (cvR cm bv).setIfInBounds 15 v1 = cvR cm' v1) :
    RdInv w (w1.setCell ⟨g, 15, none⟩ v1) g gr bs s cm' v1 := by
  obtain ⟨a_, hr⟩ := h.rd
  have h1 : CmAt w1 g cm bv := blk_grown h.at_ hg (own_ne h.own h.at_ (by decide))
  have h2 : CmAt w1 w.heap.size zeroCm (.slice none 0 0) := blk_grown h.res hg (own_ne h.own h.res (by decide))
  refine ⟨RdS.setCm ⟨a_, hr.appendS h.own hg⟩ h1 15 v1, blk_far h2 (p := ⟨g, 15, none⟩) h.ne v1, ?_, (h.below.trans hb).setCell (p := ⟨g, 15, none⟩) h.base v1, h.base, h.ne, own_setCell ho (p := ⟨g, 15, none⟩) (own_ne ho h1 (by decide)) v1⟩
  have := blk_set h1 15 v1
  rw [he] at this
  exact this

theorem cvR_info (c : Cm) (bv : Value) : (Tryd.prog.info? 26).map (·.size) = some (cvR c bv).size := by
  show _ = some 18
  kernel_rfl
theorem cvR_one (c : Cm) (A : Option Addr) (n k : Nat) : (cvR c (.slice A n k)).all (·.oneCell') = true := by
  simp [cvR, Value.oneCell']

theorem cm_alloc {w : World} {g : Nat} {c : Cm} {bv v : Value} (h : CmAt w g c bv) (o : Obj) (hc : (cvR c bv)[15]? = some v) : (w.alloc o).cell? ⟨g, 15, none⟩ = some v ∧ (w.alloc o).frozen? ⟨g, 15, none⟩ = false := by
  have h2 : (w.alloc o).heap[g]? = some (.cells (cvR c bv) 26 (0, 0)) := ((below_alloc (Below.refl w.heap.size w) o).block g (blk_lt h)).trans h
  exact ⟨(blk_cell h2 15).trans hc, blk_frozen h2 15⟩

theorem numB_bytes (n : Nat) : Bytes (numB n) := by
  induction n using Nat.strongRecOn with
  | _ n ih =>
    intro x hx
    by_cases h : n < 128
    · rw [numB_small h, List.mem_singleton] at hx; omega
    · rw [numB_big h, List.mem_cons] at hx
      rcases hx with rfl | hx
      · omega
      · exact ih (n / 128) (by omega) x hx
theorem bytesOf_bytes (s : ByteArray) : Bytes (bytesOf s) := by
  intro x hx
  obtain ⟨b, _, rfl⟩ := List.mem_map.1 hx
  have := b.toNat_lt
  omega
theorem Bytes.append {a b : List Int} (ha : Bytes a) (hb : Bytes b) : Bytes (a ++ b) := fun x hx => (List.mem_append.1 hx).elim (ha x) (hb x)
theorem fm_bytes (l : List Int) : Bytes (fm l) := by
  intro x hx
  obtain ⟨n, _, h⟩ := List.mem_flatMap.1 hx
  exact numB_bytes _ x h
theorem ft_bytes (l : List ByteArray) : Bytes (ft l) := by
  intro x hx
  obtain ⟨n, _, h⟩ := List.mem_flatMap.1 hx
  exact ((numB_bytes _).append (bytesOf_bytes n)) x h
theorem encB_bytes (c : Cm) : Bytes (encB c) := ((((fm_bytes _).append (numB_bytes _)).append (ft_bytes _)).append (numB_bytes _)).append (ft_bytes _)

theorem ret_cmd {tmps : Array Value} {w : World} {g : Nat} {c : Cm} {bv : Value} (hp : tmps.getD 2 undef = .pointer (some ⟨g, 0, none⟩)) (hg : CmAt w g c bv) :
    (results Tryd.f15 tmps).run Tryd.prog w = .ok (.tuple #[.agg (cvR c bv), tmps.getD 3 undef]) w := by
  rw [results_cell_tmp (p := 2) (u := 3) (ty := 26) (by kernel_rfl), hp]
  simp only [asAddr, Sem.run_pure, Result.andThen_ok]
  rw [run_loadVar_row w g 26 26 (cvR c bv) (0, 0) _ hg Tryd.underlying26 rfl (by kernel_rfl)]
  rfl
/-- The result's variable is stored. -/
theorem RdInv.result {w wr : World} {g gr : Nat} {bs : List Int} {s : RS} {cm : Cm} {bv : Value} (h : RdInv w wr g gr bs s cm bv) (c2 : Cm) (bv2 : Value) : CmAt (wr.setRow w.heap.size (cvR c2 bv2)) w.heap.size c2 bv2 ∧ Below w.heap.size w (wr.setRow w.heap.size (cvR c2 bv2)) :=
  ⟨setRow_heap _ _ _ _ _ _ h.res, h.below.trans ⟨rfl, rfl, rfl, by simp, fun k hk => setRow_other _ _ _ _ (by omega)⟩⟩
theorem ErrV.setRow {w : World} {base : Nat} {v : Value} {p q : Int} {g : Nat} {cs old : Array Value} (h : ErrV w base v p q) (hg : w.heap[g]? = some (.cells old 26 (0, 0))) : ErrV (w.setRow g cs) base v p q := by
  rcases h with h | ⟨h1, b, e, h2, h3⟩
  · exact .inl h
  · exact .inr ⟨h1, b, e, h2, (setRow_other _ _ _ _ (blk_ne h3 hg (by decide))).trans h3⟩
theorem SOwn.setRow {w : World} {base : Nat} {v : Value} {l : List ByteArray} {g : Nat} {cs old : Array Value} (h : SOwn w base v l) (hg : w.heap[g]? = some (.cells old 26 (0, 0))) : SOwn (w.setRow g cs) base v l :=
  own_move h (fun k hk => setRow_other _ _ _ _ (fun e => own_ne h hg (by decide) (by rw [hk, e])))

set_option maxHeartbeats 8000000 in
set_option maxRecDepth 100000 in
theorem read_any (A : Option Addr) (c : Nat) (bs : List Int) (w : World) (h : BRead w A bs) (hl : bs.length ≤ 70368744177664) (hby : Bytes bs) :
    Calls Tryd.prog 15 #[.slice A bs.length c] w fun e w' => (∃ bv ev a_, e = .returned (.tuple #[.agg (cvR (readCm bs) bv), ev]) ∧ ErrV w' w.heap.size ev a_ (readCode bs) ∧ SOwn w' w.heap.size bv (readCm bs).bodies) ∧ Below w.heap.size w w' := by
  have HD := Lib.hid h
  have HY := Lib.hid hby
  clear h hby
  have hcs : (cvR zeroCm (.slice none 0 0)).all (·.oneCell') = true := by kernel_rfl
  have hi2 : (Tryd.prog.info? 26).map (·.size) = some (cvR zeroCm (.slice none 0 0)).size := by kernel_rfl
  have HCS := Lib.hid hcs
  have HI2_ := Lib.hid hi2
  clear hcs hi2
  go_enter Tryd.func15, Tryd.ntmps15
  go_wp2_with fail
  have HG1 : Hid (CmAt ((w.alloc (.cells #[.int .i64 0, .int .i64 0, .int .i64 0, .string ⟨#[]⟩, .int .i64 0, .int .i64 0, .int .i64 0, .int .i64 0, .int .i64 0, .string ⟨#[]⟩, .bool false, .string ⟨#[]⟩, .string ⟨#[]⟩, .string ⟨#[]⟩, .string ⟨#[]⟩, .slice none 0 0, .int .i64 0, .int .i64 0] 26)).alloc (.cells #[.int .i64 0, .int .i64 0, .int .i64 0, .string ⟨#[]⟩, .int .i64 0, .int .i64 0, .int .i64 0, .int .i64 0, .int .i64 0, .string ⟨#[]⟩, .bool false, .string ⟨#[]⟩, .string ⟨#[]⟩, .string ⟨#[]⟩, .string ⟨#[]⟩, .slice none 0 0, .int .i64 0, .int .i64 0] 26)) w.heap.size zeroCm (.slice none 0 0)) := heap_alloc2_old w _ _
  have HG2 : Hid (CmAt ((w.alloc (.cells #[.int .i64 0, .int .i64 0, .int .i64 0, .string ⟨#[]⟩, .int .i64 0, .int .i64 0, .int .i64 0, .int .i64 0, .int .i64 0, .string ⟨#[]⟩, .bool false, .string ⟨#[]⟩, .string ⟨#[]⟩, .string ⟨#[]⟩, .string ⟨#[]⟩, .slice none 0 0, .int .i64 0, .int .i64 0] 26)).alloc (.cells #[.int .i64 0, .int .i64 0, .int .i64 0, .string ⟨#[]⟩, .int .i64 0, .int .i64 0, .int .i64 0, .int .i64 0, .int .i64 0, .string ⟨#[]⟩, .bool false, .string ⟨#[]⟩, .string ⟨#[]⟩, .string ⟨#[]⟩, .string ⟨#[]⟩, .slice none 0 0, .int .i64 0, .int .i64 0] 26)) (w.heap.size + 1) (mkC [] false [] []) (.slice none 0 0)) := heap_alloc2_new w _ _
  have HB := Lib.hid (below_alloc (below_alloc (Below.refl w.heap.size w) (.cells #[.int .i64 0, .int .i64 0, .int .i64 0, .string ⟨#[]⟩, .int .i64 0, .int .i64 0, .int .i64 0, .int .i64 0, .int .i64 0, .string ⟨#[]⟩, .bool false, .string ⟨#[]⟩, .string ⟨#[]⟩, .string ⟨#[]⟩, .string ⟨#[]⟩, .slice none 0 0, .int .i64 0, .int .i64 0] 26)) (.cells #[.int .i64 0, .int .i64 0, .int .i64 0, .string ⟨#[]⟩, .int .i64 0, .int .i64 0, .int .i64 0, .int .i64 0, .int .i64 0, .string ⟨#[]⟩, .bool false, .string ⟨#[]⟩, .string ⟨#[]⟩, .string ⟨#[]⟩, .string ⟨#[]⟩, .slice none 0 0, .int .i64 0, .int .i64 0] 26))
  generalize (w.alloc (.cells #[.int .i64 0, .int .i64 0, .int .i64 0, .string ⟨#[]⟩, .int .i64 0, .int .i64 0, .int .i64 0, .int .i64 0, .int .i64 0, .string ⟨#[]⟩, .bool false, .string ⟨#[]⟩, .string ⟨#[]⟩, .string ⟨#[]⟩, .string ⟨#[]⟩, .slice none 0 0, .int .i64 0, .int .i64 0] 26)).alloc (.cells #[.int .i64 0, .int .i64 0, .int .i64 0, .string ⟨#[]⟩, .int .i64 0, .int .i64 0, .int .i64 0, .int .i64 0, .int .i64 0, .string ⟨#[]⟩, .bool false, .string ⟨#[]⟩, .string ⟨#[]⟩, .string ⟨#[]⟩, .string ⟨#[]⟩, .slice none 0 0, .int .i64 0, .int .i64 0] 26) = w1 at HG1 HG2 HB ⊢
  obtain ⟨g, hg⟩ : ∃ g, w.heap.size + 1 = g := ⟨_, rfl⟩
  rw [hg] at HG2 ⊢
  have HGE : Hid (w.heap.size ≤ g) := Lib.hid (by omega)
  have HGN : Hid (w.heap.size ≠ g) := Lib.hid (by omega)
  clear hg
  refine (of_any A c bs w1 (HD.out.below HB.out) (by omega)).mono ?_
  rintro e w2 ⟨gr, rfl, hrd, hb2⟩
  have HI2 : Hid (RdInv w w2 g gr bs ⟨0, 0⟩ (mkC [] false [] []) (.slice none 0 0)) := Lib.hid (by
    obtain ⟨x1, ev, bv, x2, x3, x4⟩ := hrd
    exact ⟨⟨0, Nat.le_trans HB.out.size x1, ev, bv, x2, x3.lower HB.out.size, x4.lower HB.out.size⟩, (hb2.block _ (blk_lt HG1.out)).trans HG1.out, (hb2.block _ (blk_lt HG2.out)).trans HG2.out,
      HB.out.trans (hb2.mono HB.out.size), HGE.out, HGN.out, SOwn.nil _ _⟩)
  clear hrd hb2 HG1 HG2 HB HGE HGN
  go_wp2_with fail
  refine (numbers_any g w2).mono ?_
  rintro e w3 ⟨b, rfl, hb0, hb3, hbb⟩
  have HI3 := Lib.hid (HI2.out.later hb3)
  have HP3 := Lib.hid hbb
  have HGB : Hid (b ≠ g) := Lib.hid (fun e => by have := blk_lt HI2.out.at_; omega)
  clear hb0 hb3 hbb HI2
  go_wp2_with fail
  go_loopw [17] (fun i wr => ∃ k : Nat, k ≤ 10 ∧ i = .int .i64 k ∧ Hid (RdInv w wr g gr bs (runN bs k ⟨0, 0⟩).1 (mkC (runN bs k ⟨0, 0⟩).2 false [] []) (.slice none 0 0)) ∧ Hid (wr.heap[b]? = w3.heap[b]?)) (fun i _ => 10 - (intOf i).toNat)
  case atStart => exact ⟨0, by omega, rfl, HI3, Lib.hid rfl⟩
  case round =>
    obtain ⟨k, hk, rfl, HI, HP⟩ := hrel
    by_cases hlt : k < 10
    · obtain ⟨o, ho, hcell⟩ := nums_ptr (HP.out.trans HP3.out) hlt
      have HO := Lib.hid ho
      clear ho
      go_wp2_with fail
      refine (rNum_s w.heap.size gr bs _ wr HI.out.rd HI.out.below.size HY.out (runN_le k (Nat.zero_le _))).mono ?_
      rintro e w4 ⟨rfl, h3, h4⟩
      have HI4 := Lib.hid (HI.out.read h3 h4)
      have HP4 : Hid (w4.heap[b]? = w3.heap[b]?) := Lib.hid ((h4.block b (blk_lt (HP.out.trans HP3.out)) (fun e => by
        injection e with e
        obtain ⟨a_, hh⟩ := HI.out.rd
        obtain ⟨cs, hcs⟩ := hh.block
        rw [← e, HP.out, HP3.out] at hcs
        injection hcs with hcs; injection hcs with _ hcs; exact absurd hcs (by decide))).trans HP.out)
      obtain ⟨x, hx⟩ := cvR_num (l := (runN bs k ⟨0, 0⟩).2) (f := false) (t := []) (b := []) (bv := .slice none 0 0) HO.out
      have zc := (HI4.out.cell o).trans hx
      have zf := HI4.out.free o
      clear h3 h4 hcell hx
      go_wp2_with fail
      go_roundw
      case rel =>
        refine ⟨k + 1, by omega, by go_num, Lib.hid ?_, Lib.hid ?_⟩
        · exact HI4.out.store o _ (set_num _ (runN_len bs k _) HO.out) rfl
        · exact (Below.heap_setCell w4 ⟨g, o, none⟩ _ b HGB.out).trans HP4.out
      case measure => simp [intOf]; omega
    · obtain rfl : k = 10 := by omega
      have HI5 : Hid (RdInv w wr g gr bs (rdA bs).1 (mkC (rdA bs).2 false [] []) (.slice none 0 0)) := HI
      clear HI HP HP3 HI3 HGB
      obtain ⟨x3, hx3⟩ : ∃ x3, (rdA bs).2.getD 3 0 = x3 := ⟨_, rfl⟩
      have hx3b : 0 ≤ x3 ∧ x3 ≤ 9223372036854775807 := by
        rw [← hx3, List.getD_eq_getElem?_getD]
        cases h : (rdA bs).2[3]? with
        | none => simp
        | some y => exact runN_bd 10 y (List.mem_of_getElem? h)
      obtain ⟨hx30, hx31⟩ := hx3b
      have zc : wr.cell? ⟨g, 16, none⟩ = some (.int .i64 x3) := by rw [← hx3]; exact (HI5.out.cell 16).trans rfl
      have zf := HI5.out.free 16
      have HX3 := Lib.hid hx3
      clear hx3
      go_wp2_with fail
      have HI6 : Hid (RdInv w (wr.setCell ⟨g, 16, none⟩ (.int .i64 (x3 - 1))) g gr bs (rdA bs).1 (mkC (fixN (rdA bs).2) false [] []) (.slice none 0 0)) :=
        Lib.hid (HI5.out.store 16 _ (by rw [← HX3.out]; exact set_n (runN_len bs 10 _)) rfl)
      generalize wr.setCell ⟨g, 16, none⟩ (.int .i64 (x3 - 1)) = w6 at HI6 ⊢
      clear zc zf HI5
      refine (rNum_s w.heap.size gr bs _ w6 HI6.out.rd HI6.out.below.size HY.out (runN_le 10 (Nat.zero_le _))).mono ?_
      rintro e w7 ⟨rfl, h3, h4⟩
      have HI7 := Lib.hid (HI6.out.read h3 h4)
      have zc : w7.cell? ⟨g, 10, none⟩ = some (.bool false) := (HI7.out.cell 10).trans rfl
      have zf := HI7.out.free 10
      clear h3 h4 HI6
      go_wp2_with fail
      have HI8 : Hid (RdInv w (w7.setCell ⟨g, 10, none⟩ (.bool (((rdB bs).2 : Int) == 1))) g gr bs (rdB bs).1 (mkC (fixN (rdA bs).2) (((rdB bs).2 : Int) == 1) [] []) (.slice none 0 0)) :=
        Lib.hid (HI7.out.store 10 _ rfl rfl)
      change Calls _ _ _ (w7.setCell ⟨g, 10, none⟩ (.bool (((rdB bs).2 : Int) == 1))) _
      generalize w7.setCell ⟨g, 10, none⟩ (.bool (((rdB bs).2 : Int) == 1)) = w8 at HI8 ⊢
      clear zc zf HI7
      refine (texts_any g w8).mono ?_
      rintro e w9 ⟨b2, rfl, hb0, hb9, hbb⟩
      have HI9 := Lib.hid (HI8.out.later hb9)
      have HP9 := Lib.hid hbb
      have HGB : Hid (b2 ≠ g) := Lib.hid (fun e => by have := blk_lt HI8.out.at_; omega)
      clear hb0 hb9 hbb HI8
      go_wp2_with fail
      go_loopw [37] (fun i wr => ∃ k : Nat, k ≤ 6 ∧ i = .int .i64 k ∧ Hid (RdInv w wr g gr bs (runT bs k (rdB bs).1).1 (mkC (fixN (rdA bs).2) (((rdB bs).2 : Int) == 1) (runT bs k (rdB bs).1).2 []) (.slice none 0 0)) ∧ Hid (wr.heap[b2]? = w9.heap[b2]?)) (fun i _ => 6 - (intOf i).toNat)
      case atStart => exact ⟨0, by omega, rfl, HI9, Lib.hid rfl⟩
      case round =>
        obtain ⟨k, hk, rfl, HI, HP⟩ := hrel
        by_cases hlt : k < 6
        · obtain ⟨o, ho, hcell⟩ := txts_ptr (HP.out.trans HP9.out) hlt
          have HO := Lib.hid ho
          clear ho
          go_wp2_with fail
          refine (rText_s w.heap.size gr bs _ 256 _ HI.out.rd HI.out.below.size HY.out (runT_le k (stN_le (runN_le 10 (Nat.zero_le _))))).mono ?_
          rintro e w10 ⟨rfl, h3, h4⟩
          have HI4 := Lib.hid (HI.out.read h3 h4)
          have HP4 : Hid (w10.heap[b2]? = w9.heap[b2]?) := Lib.hid ((h4.block b2 (blk_lt (HP.out.trans HP9.out)) (fun e => by
            injection e with e
            obtain ⟨a_, hh⟩ := HI.out.rd
            obtain ⟨cs, hcs⟩ := hh.block
            rw [← e, HP.out, HP9.out] at hcs
            injection hcs with hcs; injection hcs with _ hcs; exact absurd hcs (by decide))).trans HP.out)
          obtain ⟨x, hx⟩ := cvR_txt (l := fixN (rdA bs).2) (f := (((rdB bs).2 : Int) == 1)) (t := (runT bs k (rdB bs).1).2) (b := []) (bv := .slice none 0 0) HO.out
          have zc := (HI4.out.cell o).trans hx
          have zf := HI4.out.free o
          clear h3 h4 hcell hx
          go_wp2_with fail
          go_roundw
          case rel =>
            refine ⟨k + 1, by omega, by go_num, Lib.hid ?_, Lib.hid ?_⟩
            · exact HI4.out.store o _ (set_txt _ (runT_len bs k _) HO.out) rfl
            · exact (Below.heap_setCell w10 ⟨g, o, none⟩ _ b2 HGB.out).trans HP4.out
          case measure => simp [intOf]; omega
        · obtain rfl : k = 6 := by omega
          have HI5 : Hid (RdInv w _ g gr bs (rdC bs).1 (mkC (fixN (rdA bs).2) (((rdB bs).2 : Int) == 1) (rdC bs).2 []) (.slice none 0 0)) := HI
          clear HI HP HP9 HI9 HGB
          go_wp2_with fail
          refine (rNum_s w.heap.size gr bs _ _ HI5.out.rd HI5.out.below.size HY.out (runT_le 6 (stN_le (runN_le 10 (Nat.zero_le _))))).mono ?_
          rintro e w7 ⟨rfl, h3, h4⟩
          have HI7 : Hid (RdInv w w7 g gr bs (rdD bs).1 (mkC (fixN (rdA bs).2) (((rdB bs).2 : Int) == 1) (rdC bs).2 []) (.slice none 0 0)) := Lib.hid (HI5.out.read h3 h4)
          clear h3 h4 HI5
          obtain ⟨many, hmany⟩ : ∃ many, (stN bs (rdC bs).1).2 = many := ⟨_, rfl⟩
          have HM : Hid ((rdD bs).2 = many) := Lib.hid hmany
          obtain ⟨lim, hlim⟩ : ∃ lim, min many 10 = lim := ⟨_, rfl⟩
          have hmn : (if (10 : Int) < ((stN bs (rdC bs).1).2 : Int) then (10 : Int) else ((stN bs (rdC bs).1).2 : Int)) = (lim : Int) := by rw [hmany]; split <;> omega
          have HL : Hid (min (rdD bs).2 10 = lim) := Lib.hid (by rw [HM.out, hlim])
          have hlim10 : lim ≤ 10 := by omega
          have HMN := Lib.hid hmn
          clear hmany hlim hmn
          go_wp2_with ((with_reducible refine gate_dst (N := 48) rfl ?_); refine Kd.event_run (w1 := w7) rfl (v := .int .i64 (lim : Int)) ?hr ?_; (case hr => (go_simp; exact HMN.out)))
          go_loopw [49] (fun i wr => ∃ (k : Nat) (bv : Value), k ≤ lim ∧ i = .int .i64 k ∧ Hid (RdInv w wr g gr bs (runT bs k (rdD bs).1).1 (mkC (fixN (rdA bs).2) (((rdB bs).2 : Int) == 1) (rdC bs).2 (runT bs k (rdD bs).1).2) bv)) (fun i _ => lim - (intOf i).toNat)
          case atStart => exact ⟨0, _, by omega, rfl, HI7⟩
          case round =>
            obtain ⟨k, bv, hk, rfl, HI⟩ := hrel
            by_cases hlt : k < lim
            · have zc : wr.cell? ⟨g, 15, none⟩ = some bv := (HI.out.cell 15).trans rfl
              have zf := HI.out.free 15
              have HLK : Hid (((runT bs k (rdD bs).1).2.length + 1) * 16 ≤ 140737488355328) := Lib.hid (by rw [runT_len]; omega)
              go_wp2_with fail
              go_region_law (first
                  | (refine step_append_cells (w0 := w10) w.heap.size (by rfl) _ _ 24 9 (.string ⟨#[]⟩) 1 16 (by rfl) Tryd.underlying24 info_str rfl (by omega) (by omega) bv _ _ [.string _] (by rfl) (by rfl) (by rfl) (by simp [Value.oneCell']) HI4.out.own (Below.refl _ _) HI4.out.below.size HLK.out ?_; intro v1 w11 hown hb11 hg11 hat; obtain ⟨Aw, cw, rfl⟩ := own_slice hown; have HOW := Lib.hid hown; have HBW := Lib.hid hb11; have HGW := Lib.hid hg11; have zc5 : w11.cell? ⟨g, 15, none⟩ = some bv := (blk_cell (blk_grown HI4.out.at_ hg11 (own_ne HI4.out.own HI4.out.at_ (by decide))) 15).trans rfl; have zf5 := blk_frozen (blk_grown HI4.out.at_ hg11 (own_ne HI4.out.own HI4.out.at_ (by decide))) 15; clear hown hb11 hg11 hat)
                  | (go_simp; go_at_call 49; refine (rText_s w.heap.size gr bs _ 256 _ (HI.out.rd.below (below_drew1 (Below.refl _ _))) HI.out.below.size HY.out (runT_le k (stN_le (runT_le 6 (stN_le (runN_le 10 (Nat.zero_le _))))))).mono ?_; rintro e w10 ⟨rfl, h3, h4⟩; have HI4 := Lib.hid ((HI.out.later (below_drew1 (Below.refl _ _))).read h3 h4); have zc4 : w10.cell? ⟨g, 15, none⟩ = some bv := (HI4.out.cell 15).trans rfl; have zf4 := HI4.out.free 15; have zc4b : ∀ o, (w10.alloc o).cell? ⟨g, 15, none⟩ = some bv := fun o => (cm_alloc HI4.out.at_ o rfl).1; clear h3 h4))
              all_goals
                go_wp2_with fail
                go_roundw
                case rel =>
                  refine ⟨k + 1, _, by omega, by go_num, Lib.hid (HI4.out.append HGW.out HBW.out ?_ set_b)⟩
                  have h := HOW.out
                  show w11.ownsRow w.heap.size 9 1 _ ((runT bs k (rdD bs).1).2 ++ [(stT bs 256 (runT bs k (rdD bs).1).1).2]).length (encs Value.string ((runT bs k (rdD bs).1).2 ++ [(stT bs 256 (runT bs k (rdD bs).1).1).2]))
                  rw [encs_append, List.length_append]
                  exact h
                case measure => simp [intOf]; omega
            · obtain rfl : k = lim := by omega
              rw [← HL.out] at HI
              have HI5 : Hid (RdInv w wr g gr bs (rdE bs).1 (rdCm bs) bv) := HI
              obtain ⟨Ab, cb, rfl, hcb, hrb⟩ := HI5.out.own.form
              have HRB := Lib.hid hrb
              clear HI hrb
              go_wp2_with fail
              refine (done_s w.heap.size gr bs _ _ HI5.out.rd HI5.out.below.size (runT_le _ (stN_le (runT_le 6 (stN_le (runN_le 10 (Nat.zero_le _))))))).mono ?_
              rintro e w12 ⟨⟨v, a_, rfl, hev⟩, hb12⟩
              have HI6 := Lib.hid (HI5.out.later hb12)
              have HE := Lib.hid hev
              have hbs6 := HI6.out.below.size
              clear hb12 HI5
              rcases hev with ⟨hd0, rfl⟩ | ⟨hd0, bq, rfl, _, _⟩
              · have HD0 := Lib.hid hd0
                clear hd0
                go_wp2_with ((with_reducible refine gate_dst (N := 66) rfl ?_); refine wpList_load_row rfl 26 (.tmp 4) rfl g rfl 26 (cvR (rdCm bs) (.slice Ab (rdCm bs).bodies.length cb)) (0, 0) _ HI6.out.at_ Tryd.underlying26 rfl (by kernel_rfl) ?_)
                have HSC := Lib.hid (Kd.C_below HRB.out (Below.refl _ _))
                have HCE : Hid (readCode bs ≠ 0 → readCode bs = 2 ∧ readCm bs = zeroCm) := Lib.hid (fun hne => by
                  have h2 : readCode bs = 2 := by
                    unfold readCode at hne ⊢
                    rw [if_pos HD0.out] at hne ⊢
                    split at hne
                    · exact absurd rfl hne
                    · rename_i h3; rw [if_neg h3]
                  exact ⟨h2, by unfold readCm; rw [if_neg (by rw [h2]; decide)]⟩)
                have hbodC : Kd.string.C w12 Ab (rdCm bs).bodies.length (rdCm bs).bodies := by
                  obtain ⟨A2, c2, e2, _, h2⟩ := HI6.out.own.form
                  injection e2 with e2 _ _
                  rw [e2]; exact h2
                have HBC := Lib.hid hbodC
                clear hbodC HSC HRB
                cases hq : right (rdCm bs) with
                | false =>
                  have HQ := Lib.hid hq
                  have hne : readCode bs ≠ 0 := by unfold readCode; rw [if_pos HD0.out, if_neg (by rw [hq]; simp)]; decide
                  obtain ⟨hc2, hcm⟩ := HCE.out hne
                  have HC2 := Lib.hid hc2
                  have HCM := Lib.hid hcm
                  clear hq hne hc2 hcm HCE
                  refine (write_no (rdCm bs) Ab cb w12 HBC.out HQ.out).mono ?_
                  rintro e w13 ⟨v13, rfl, he13, hb13⟩
                  have HI13 := Lib.hid (HI6.out.later hb13)
                  obtain ⟨b13, rfl, _, _⟩ := he13
                  have hrr := HI13.out.rd
                  obtain ⟨a1, _, ev1, bv1, hra, _, _⟩ := hrr
                  have HRA := Lib.hid hra
                  clear hb13 hra
                  go_wp2_with fail
                  refine (at_any gr _ ev1 bv1 _ HRA.out).mono ?_
                  rintro e w14 ⟨rfl, rfl⟩
                  go_wp2_with fail
                  refine (refused_any 2 _ _).mono ?_
                  rintro e w15 ⟨v15, rfl, he15, hb15⟩
                  have HI15 := Lib.hid (HI13.out.later hb15)
                  have HE15 := Lib.hid (he15.lower HI13.out.below.size)
                  clear hb15 he15
                  go_wp2_with (refine wpList_store_row rfl 26 (.tmp 2) (.tmp 78) rfl w.heap.size (cvR zeroCm (.slice none 0 0)) rfl rfl 26 (cvR zeroCm (.slice none 0 0)) HI15.out.res HI2_.out rfl HCS.out ?_)
                  obtain ⟨r1, r2⟩ := HI15.out.result zeroCm (.slice none 0 0)
                  refine bodyPost_ret (v := .tuple #[.agg (cvR zeroCm (.slice none 0 0)), v15]) (ret_cmd rfl r1) rfl ⟨⟨_, _, ((rdE bs).1.p : Int), by rw [HCM.out], ?_, ?_⟩, r2⟩
                  · rw [HC2.out]; exact ErrV.setRow (.inr ⟨by decide, HE15.out⟩) HI15.out.res
                  · rw [HCM.out]; exact SOwn.nil _ _
                | true =>
                  have HQ := Lib.hid hq
                  clear hq
                  refine (write_yes (rdCm bs) Ab cb w12 HBC.out HQ.out).mono ?_
                  rintro e w13 ⟨v13, rfl, ho13, hb13⟩
                  have HI13 := Lib.hid (HI6.out.later hb13)
                  have HB13 := Lib.hid hb13
                  obtain ⟨A13, c13, rfl, _, hr13⟩ := ho13.form
                  have HR13 := Lib.hid hr13
                  clear hb13 ho13 hr13
                  go_wp2_with fail
                  refine (bEq_any A13 A c13 c (encB (rdCm bs)) bs w13 HR13.out (HD.out.below HI13.out.below) (encB_bytes _) HY.out).mono ?_
                  rintro e w14 ⟨rfl, rfl⟩
                  by_cases heq : encB (rdCm bs) = bs
                  · have hcode : readCode bs = 0 := by unfold readCode; rw [if_pos HD0.out, if_pos ⟨HQ.out, heq⟩]
                    have hcm : readCm bs = rdCm bs := by unfold readCm; rw [if_pos hcode]
                    have HC2 := Lib.hid hcode
                    have HCM := Lib.hid hcm
                    have hdt := decide_eq_true heq
                    clear heq hcode hcm HCE
                    go_wp2_with (first
                      | ((with_reducible refine gate_dst (N := 82) rfl ?_); refine wpList_load_row rfl 26 (.tmp 4) rfl g rfl 26 (cvR (rdCm bs) (.slice Ab (rdCm bs).bodies.length cb)) (0, 0) _ HI13.out.at_ Tryd.underlying26 rfl (by kernel_rfl) ?_)
                      | (refine wpList_store_row rfl 26 (.tmp 2) (.tmp 82) rfl w.heap.size (cvR (rdCm bs) (.slice Ab (rdCm bs).bodies.length cb)) rfl rfl 26 (cvR zeroCm (.slice none 0 0)) HI13.out.res (cvR_info _ _) rfl (cvR_one _ _ _ _) ?_))
                    obtain ⟨r1, r2⟩ := HI13.out.result (rdCm bs) (.slice Ab (rdCm bs).bodies.length cb)
                    refine bodyPost_ret (v := .tuple #[.agg (cvR (rdCm bs) (.slice Ab (rdCm bs).bodies.length cb)), .nilIface]) (ret_cmd rfl r1) rfl ⟨⟨_, _, 0, by rw [HCM.out], ?_, ?_⟩, r2⟩
                    · exact .inl ⟨HC2.out, rfl⟩
                    · rw [HCM.out]; exact SOwn.setRow HI13.out.own HI13.out.res
                  · have hne : readCode bs ≠ 0 := by unfold readCode; rw [if_pos HD0.out, if_neg (fun h => heq h.2)]; decide
                    obtain ⟨hc2, hcm⟩ := HCE.out hne
                    have HC2 := Lib.hid hc2
                    have HCM := Lib.hid hcm
                    have hdf := decide_eq_false heq
                    have hrr := HI13.out.rd
                    obtain ⟨a1, _, ev1, bv1, hra, _, _⟩ := hrr
                    have HRA := Lib.hid hra
                    clear heq hne hc2 hcm HCE hra
                    go_wp2_with fail
                    refine (at_any gr _ ev1 bv1 _ HRA.out).mono ?_
                    rintro e w14 ⟨rfl, rfl⟩
                    go_wp2_with fail
                    refine (refused_any 2 _ _).mono ?_
                    rintro e w15 ⟨v15, rfl, he15, hb15⟩
                    have HI15 := Lib.hid (HI13.out.later hb15)
                    have HE15 := Lib.hid (he15.lower HI13.out.below.size)
                    clear hb15 he15
                    go_wp2_with (refine wpList_store_row rfl 26 (.tmp 2) (.tmp 78) rfl w.heap.size (cvR zeroCm (.slice none 0 0)) rfl rfl 26 (cvR zeroCm (.slice none 0 0)) HI15.out.res HI2_.out rfl HCS.out ?_)
                    obtain ⟨r1, r2⟩ := HI15.out.result zeroCm (.slice none 0 0)
                    refine bodyPost_ret (v := .tuple #[.agg (cvR zeroCm (.slice none 0 0)), v15]) (ret_cmd rfl r1) rfl ⟨⟨_, _, ((rdE bs).1.p : Int), by rw [HCM.out], ?_, ?_⟩, r2⟩
                    · rw [HC2.out]; exact ErrV.setRow (.inr ⟨by decide, HE15.out⟩) HI15.out.res
                    · rw [HCM.out]; exact SOwn.nil _ _
              · have HD0 := Lib.hid hd0
                clear hd0
                go_wp2_with (refine wpList_store_row rfl 26 (.tmp 2) (.tmp 63) rfl w.heap.size (cvR zeroCm (.slice none 0 0)) rfl rfl 26 (cvR zeroCm (.slice none 0 0)) HI6.out.res HI2_.out rfl HCS.out ?_)
                have hcode : readCode bs = stD bs (rdE bs).1 := by unfold readCode; rw [if_neg HD0.out]
                have hcm : readCm bs = zeroCm := by unfold readCm; rw [if_neg (by rw [hcode]; exact HD0.out)]
                obtain ⟨r1, r2⟩ := HI6.out.result zeroCm (.slice none 0 0)
                refine bodyPost_ret (v := .tuple #[.agg (cvR zeroCm (.slice none 0 0)), .iface 121 (.pointer (some ⟨bq, 0, none⟩))]) (ret_cmd rfl r1) rfl ⟨⟨_, _, a_, by rw [hcm], ?_, ?_⟩, r2⟩
                · rw [hcode]; exact HE.out.setRow HI6.out.res
                · rw [hcm]; exact SOwn.nil _ _

end Go.Proofs.YtlgippliihgcjaaDoor.C
