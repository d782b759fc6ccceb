/- A whole struct stored, a slice literal, as events of a walk. -/
import Derived.Test.YtlgippliihgcjaaDoorC0
import Derived.Laws.Tables
namespace Go.Proofs.YtlgippliihgcjaaDoor.C
set_option linter.unusedVariables false
set_option linter.unusedSimpArgs false
open Go.RowKit Go.Proofs.YtlgippliihgcjaaDoorW.PrintWords

section
variable {P : Program} {ops : Array Oper} {rest : List Oper} {o : Oper} {a : Act} {Q : Exit → Act → World → Prop}
/-- A slice literal is made. -/
theorem lit_event {W : World} (hgd : o.guard = none) {N : Tmp} (_hd : o.dst = some N) {cs : Array Value} {t : TypeId} (n : Nat)
    (hrun : (execOp a.eval o).run P W = .ok (.value (.slice (some ⟨W.heap.size, 0, none⟩) n n)) (W.alloc (.cells cs t (0, 0))))
    (h : ∀ g, g = W.heap.size → ∀ w1, w1.heap[g]? = some (.cells cs t (0, 0)) → Below W.heap.size W w1 → wpList P ops Q rest (a.put o.dst (.slice (some ⟨g, 0, none⟩) n n)) w1) : wpList P ops Q (o :: rest) a W :=
  Kd.event_run hgd hrun (h _ rfl _ (blk_new W _) (below_alloc (Below.refl _ _) _))
/-- What a store into a block g leaves. -/
def SetsOne (W w1 : World) (g : Nat) : Prop := (∀ k, k ≠ g → w1.heap[k]? = W.heap[k]?) ∧ ∀ B, B ≤ g → Below B W w1
theorem SetsOne.far {W w1 : World} {g k : Nat} {o : Obj} (h : SetsOne W w1 g) (hk : W.heap[k]? = some o) (hne : k ≠ g) : w1.heap[k]? = some o := (h.1 k hne).trans hk
theorem SetsOne.own {W w1 : World} {g : Nat} {base : Nat} {e : TypeId} {size n : Nat} {v : Value} {xs : List Value} {t : TypeId} {cs : Array Value} (h : SetsOne W w1 g) (hv : W.ownsRow base e size v n xs) (hg : W.heap[g]? = some (.cells cs t (0, 0))) (hne : e ≠ t) : w1.ownsRow base e size v n xs :=
  own_move hv (fun k hk => h.1 k (fun he => own_ne hv hg hne (by rw [hk, he])))
/-- A whole struct is stored at the head of its block. -/
theorem store_event {W : World} (hgd : o.guard = none) (ty : TypeId) (x y : Operand) (ho : o.op = .store ty x y) (g : Nat) (cells : Array Value) (hx : a.eval x = .pointer (some ⟨g, 0, none⟩)) (hy : a.eval y = .agg cells)
    (t : TypeId) (old : Array Value) (hg : W.heap[g]? = some (.cells old t (0, 0))) (hi : (P.info? ty).map (·.size) = some cells.size) (hold : old.size = cells.size) (h1 : cells.all (·.oneCell') = true)
    (h : ∀ w1, w1.heap[g]? = some (.cells cells t (0, 0)) → SetsOne W w1 g → wpList P ops Q rest (a.put o.dst undef) w1) : wpList P ops Q (o :: rest) a W :=
  wpList_store_row hgd ty x y ho g cells hx hy t old hg hi hold h1
    (h _ (setRow_heap _ _ _ _ _ _ hg) ⟨fun k hk => setRow_other _ _ _ _ hk, fun _ hB => ⟨rfl, rfl, rfl, by simp, fun k hk => setRow_other _ _ _ _ (by omega)⟩⟩)
end
end Go.Proofs.YtlgippliihgcjaaDoor.C
