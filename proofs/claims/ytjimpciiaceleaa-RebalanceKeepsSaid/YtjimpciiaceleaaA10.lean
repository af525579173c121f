/-
  THE SEARCH of path.All, as lists: what seek answers; what it keeps. No program here but the names of its data. No condition.
-/
import Derived.Test.YtjimpciiaceleaaA9
namespace Go.Proofs.Ytjimpciiaceleaa
open Fw
set_option linter.unusedVariables false
set_option maxRecDepth 100000

def lastN (nodes : List Int) : Int := (nodes[nodes.length - 1]?).getD 0
def loopS (f : Step → List RouteP → List RouteP × Bool) (nodes : List Int) : List Step → List RouteP → List RouteP × Bool
  | [], rs => (rs, true)
  | s :: ss, rs => if 0 ≤ idxOf nodes s.to then loopS f nodes ss rs else if (f s rs).2 = true then loopS f nodes ss (f s rs).1 else ((f s rs).1, false)
noncomputable def seekF (es : List Edge) (n : Nat) (to a : Int) : Nat → List Int → List Int → List RouteP → List RouteP × Bool
  | 0, nodes, edges, rs => if lastN nodes = to then (addF es a nodes edges rs, decide ((addF es a nodes edges rs).length < 32)) else (rs, true)
  | d + 1, nodes, edges, rs => if lastN nodes = to then (addF es a nodes edges rs, decide ((addF es a nodes edges rs).length < 32)) else
    loopS (fun s rs => seekF es n to a d (nodes ++ [s.to]) (edges ++ [s.edge]) rs) nodes (stepsF n es (lastN nodes)) rs
theorem addF_len (es : List Edge) (a : Int) (nodes edges : List Int) (rs : List RouteP) : (addF es a nodes edges rs).length ≤ rs.length + 1 := by
  unfold addF
  split <;> simp
def Fewer (r : List RouteP × Bool) : Prop := r.1.length ≤ 32 ∧ (r.2 = true → r.1.length < 32)
theorem loopS_few {f : Step → List RouteP → List RouteP × Bool} {nodes : List Int} (hf : ∀ s rs, rs.length < 32 → Fewer (f s rs)) : ∀ (ss : List Step) (rs : List RouteP), rs.length < 32 → Fewer (loopS f nodes ss rs)
  | [], rs, h => ⟨by show rs.length ≤ 32; omega, fun _ => h⟩
  | s :: ss, rs, h => by
    unfold loopS
    split
    · exact loopS_few hf ss rs h
    · have h1 := hf s rs h
      split
      · rename_i h2
        exact loopS_few hf ss _ (h1.2 h2)
      · exact ⟨h1.1, fun h => by cases h⟩
theorem found_few {es : List Edge} {a : Int} {nodes edges : List Int} {rs : List RouteP} (h : rs.length < 32) : Fewer (addF es a nodes edges rs, decide ((addF es a nodes edges rs).length < 32)) := by
  have := addF_len es a nodes edges rs
  exact ⟨by show (addF es a nodes edges rs).length ≤ 32; omega, fun h => by simpa using h⟩
theorem seekF_few (es : List Edge) (n : Nat) (to a : Int) : ∀ (d : Nat) (nodes edges : List Int) (rs : List RouteP), rs.length < 32 → Fewer (seekF es n to a d nodes edges rs)
  | 0, nodes, edges, rs, h => by
    unfold seekF
    split
    · exact found_few h
    · exact ⟨by show rs.length ≤ 32; omega, fun _ => h⟩
  | d + 1, nodes, edges, rs, h => by
    unfold seekF
    split
    · exact found_few h
    · exact loopS_few (fun s rs h => seekF_few es n to a d _ _ rs h) _ rs h
theorem stepsFrom_mem {x : Int} : ∀ {es : List Edge} {i : Nat} {s : Step}, s ∈ stepsFrom x i es → ∃ j, ∃ h : j < es.length, s.edge = ((i + j : Nat) : Int) ∧ stepOf (i + j) es[j] x = some s
  | [], i, s, h => by simp [stepsFrom] at h
  | e :: es, i, s, h => by
    simp only [stepsFrom, List.mem_append] at h
    rcases h with h | h
    · refine ⟨0, by simp, ?_⟩
      cases hs : stepOf i e x with
      | none => rw [hs] at h; simp at h
      | some t =>
        rw [hs] at h
        have : s = t := by simpa using h
        subst this
        refine ⟨?_, by simpa using hs⟩
        unfold stepOf at hs
        split at hs
        · cases hs; rfl
        · split at hs
          · cases hs; rfl
          · cases hs
    · obtain ⟨j, hj, h1, h2⟩ := stepsFrom_mem h
      refine ⟨j + 1, by simpa using hj, ?_, ?_⟩
      · rw [h1]; congr 1; omega
      · rw [show i + (j + 1) = i + 1 + j from by omega]; simpa using h2
/-- A step is a hop that is there, to the other end. -/
theorem steps_hop {n : Nat} {es : List Edge} {x : Int} {s : Step} (h : s ∈ stepsF n es x) : checkF n es = 0 ∧ hopOk es (x, s.edge) ∧ s.to = endAt (edgeAt es s.edge) (1 - (sideOf (edgeAt es s.edge) x).toNat) ∧ s.can = canOf es (x, s.edge) ∧ s.fee = feeOf es (x, s.edge) := by
  unfold stepsF at h
  split at h
  · rename_i hc
    obtain ⟨j, hj, h1, h2⟩ := stepsFrom_mem h
    rw [Nat.zero_add] at h1 h2
    have he : edgeAt es s.edge = es[j] := by
      unfold edgeAt; rw [h1, Int.toNat_natCast, List.getElem?_eq_getElem hj]; rfl
    refine ⟨hc, ⟨by show 0 ≤ s.edge; omega, by show s.edge.toNat < es.length; omega, ?_⟩, ?_, ?_, ?_⟩
    · show sideOf (edgeAt es s.edge) x = 0 ∨ sideOf (edgeAt es s.edge) x = 1
      rw [he]
      unfold stepOf at h2
      split at h2
      · exact .inl (by assumption)
      · split at h2
        · exact .inr (by assumption)
        · cases h2
    all_goals
      first | rw [he] | (unfold canOf; show _ = canAt (edgeAt es s.edge) (sideOf (edgeAt es s.edge) x).toNat; rw [he]) | (unfold feeOf; show _ = feeAt (edgeAt es s.edge) (sideOf (edgeAt es s.edge) x).toNat; rw [he])
      unfold stepOf at h2
      split at h2
      · rename_i h3; cases h2; rw [h3]; rfl
      · split at h2
        · rename_i h3; cases h2; rw [h3]; rfl
        · cases h2
  · simp at h
theorem zip_snoc {nodes edges : List Int} (t x : Int) (hl : nodes.length = edges.length + 1) : (nodes ++ [t]).zip (edges ++ [x]) = nodes.zip edges ++ [(lastN nodes, x)] := by
  apply List.ext_getElem?
  intro i
  by_cases h1 : i < edges.length
  · have h2 : i < nodes.length := by omega
    have h3 : i < (nodes.zip edges).length := by rw [List.length_zip]; omega
    rw [List.getElem?_append_left h3, List.getElem?_eq_getElem h3, List.getElem?_eq_getElem (by rw [List.length_zip]; simp; omega)]
    simp [List.getElem_append_left h1, List.getElem_append_left h2]
  · by_cases h3 : i = edges.length
    · subst h3
      have h2 : edges.length < nodes.length := by omega
      have hz : (nodes.zip edges).length = edges.length := by rw [List.length_zip]; omega
      have hlt : edges.length < ((nodes ++ [t]).zip (edges ++ [x])).length := by rw [List.length_zip]; simp; omega
      rw [List.getElem?_eq_getElem hlt, List.getElem?_append_right (by omega), hz, Nat.sub_self]
      have hl2 : lastN nodes = nodes[edges.length] := by
        unfold lastN
        rw [show nodes.length - 1 = edges.length from by omega, List.getElem?_eq_getElem h2]; rfl
      simp [List.getElem_append_left h2, hl2]
    · have hl1 : ((nodes ++ [t]).zip (edges ++ [x])).length ≤ i := by rw [List.length_zip]; simp; omega
      have hl2 : (nodes.zip edges ++ [(lastN nodes, x)]).length ≤ i := by rw [List.length_append, List.length_zip]; simp; omega
      rw [List.getElem?_eq_none hl1, List.getElem?_eq_none hl2]
def WayOk (es : List Edge) (nodes edges : List Int) : Prop := nodes.length = edges.length + 1 ∧ ∀ h ∈ nodes.zip edges, hopOk es h
theorem WayOk.snoc {es : List Edge} {nodes edges : List Int} {n : Nat} {s : Step} (h : WayOk es nodes edges) (hs : s ∈ stepsF n es (lastN nodes)) : WayOk es (nodes ++ [s.to]) (edges ++ [s.edge]) := by
  refine ⟨by simp [h.1], fun p hp => ?_⟩
  rw [zip_snoc _ _ h.1] at hp
  rcases List.mem_append.1 hp with hp | hp
  · exact h.2 p hp
  · have : p = (lastN nodes, s.edge) := by simpa using hp
    rw [this]
    exact (steps_hop hs).2.1
theorem OwnL.trunc {α : Type} {e k : Nat} {enc : α → List Value} (hk : ∀ x, (enc x).length = k) {p : Option Addr} {m cap : Nat} {xs : List α} {x : α} {B : List Blk} (h : OwnL e enc k (.slice p m cap) (xs ++ [x]) B) (hm : m = xs.length + 1) : OwnL e enc k (.slice p xs.length cap) xs B := by
  unfold OwnL at *
  rw [List.flatMap_append] at h
  have hx : ([x].flatMap enc) = enc x := by simp
  rw [hx] at h
  generalize hc : xs.flatMap enc ++ enc x = cs at h
  cases h with
  | nil => omega
  | @blk b len cap cs rest hl hr hle =>
    subst hc
    rw [show (xs.flatMap enc ++ enc x) ++ rest = xs.flatMap enc ++ (enc x ++ rest) from List.append_assoc ..] at hr ⊢
    exact .blk (flat_length hk xs) hr (by omega)
theorem lastN_get {nodes : List Int} (h : 0 < nodes.length) : nodes[nodes.length - 1]? = some (lastN nodes) := by
  unfold lastN
  rw [List.getElem?_eq_getElem (by omega)]; rfl
end Go.Proofs.Ytjimpciiaceleaa