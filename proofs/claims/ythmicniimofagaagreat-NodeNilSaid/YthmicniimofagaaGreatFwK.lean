/-
  THE BASE OF THE WALKS (K): all blocks of a world at the start; what came in, read as lists; what was there stands. No condition.
-/
import Derived.Test.YthmicniimofagaaGreatFwJ
import Derived.Below
import Derived.ChangeArms
import Derived.ChangeSame
import Derived.OpenShut
namespace Go.Proofs.YthmicniimofagaaGreat
namespace Fw
open Go.RowKit
def allBlks (w : World) : List Blk := (List.range w.heap.size).filterMap fun b => (w.heap[b]?).map fun o => (b, o)
theorem mem_allBlks {w : World} {b : Nat} {o : Obj} : (b, o) ∈ allBlks w ↔ w.heap[b]? = some o := by
  unfold allBlks
  rw [List.mem_filterMap]
  constructor
  · rintro ⟨c, _, h⟩
    cases hc : w.heap[c]? with
    | none => simp [hc] at h
    | some x =>
      simp only [hc, Option.map_some, Option.some.injEq, Prod.mk.injEq] at h
      obtain ⟨rfl, rfl⟩ := h
      exact hc
  · intro h
    refine ⟨b, List.mem_range.2 (Array.getElem?_eq_some_iff.1 h).1, ?_⟩
    rw [h]; rfl
theorem has_allBlks (w : World) : Has w (outOf w) (allBlks w) where
  all := fun b o h => mem_allBlks.1 h
  nd := by
    have h : ∀ l : List Nat, l.Nodup → ((l.filterMap fun b => (w.heap[b]?).map fun o => (b, o)).map Prod.fst).Nodup ∧ ∀ x ∈ (l.filterMap fun b => (w.heap[b]?).map fun o => (b, o)).map Prod.fst, x ∈ l := by
      intro l
      induction l with
      | nil => intro _; simp
      | cons a l ih =>
        intro hn
        obtain ⟨h1, h2⟩ := ih (List.nodup_cons.1 hn).2
        cases ha : w.heap[a]? with
        | none =>
          rw [List.filterMap_cons, ha]
          exact ⟨h1, fun x hx => List.mem_cons_of_mem _ (h2 x hx)⟩
        | some o =>
          rw [List.filterMap_cons, ha]
          simp only [Option.map_some, List.map_cons, List.nodup_cons]
          refine ⟨⟨fun hm => (List.nodup_cons.1 hn).1 (h2 a hm), h1⟩, fun x hx => ?_⟩
          rcases List.mem_cons.1 hx with rfl | hx
          · exact List.mem_cons_self
          · exact List.mem_cons_of_mem _ (h2 x hx)
    exact (h _ List.nodup_range).1
  same := rfl
theorem below_allBlks {w w' : World} (h : Has w' (outOf w) (allBlks w)) : Below w.heap.size w w' where
  os := congrArg Out.os h.same
  tape := congrArg Out.tape h.same
  output := congrArg Out.output h.same
  size := by
    by_cases h0 : w.heap.size = 0
    · omega
    · have hlt : w.heap.size - 1 < w.heap.size := by omega
      have := h.all _ _ (mem_allBlks.2 (Array.getElem?_eq_getElem hlt))
      have := (Array.getElem?_eq_some_iff.1 this).1
      omega
  block := by
    intro k hk
    rw [h.all _ _ (mem_allBlks.2 (Array.getElem?_eq_getElem hk)), Array.getElem?_eq_getElem hk]
end Fw
end Go.Proofs.YthmicniimofagaaGreat
