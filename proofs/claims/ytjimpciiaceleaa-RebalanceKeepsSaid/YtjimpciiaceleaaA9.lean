/-
  THE WALKS of path.right, path.better, Route.Fees, and of what All does with a way that was found. Conditions: sizes.
-/
import Derived.Test.YtjimpciiaceleaaA8
namespace Go.Proofs.Ytjimpciiaceleaa
open Fw
set_option linter.unusedVariables false
set_option maxRecDepth 100000

/-- path.right. -/
def rightF (n : Nat) (es : List Edge) (from_ to a : Int) : Int := if checkF n es ≠ 0 then checkF n es else if from_ < 0 ∨ n ≤ from_ ∨ to < 0 ∨ n ≤ to ∨ from_ = to ∨ a = 0 then 1 else 0
structure RouteP where
  nodes : List Int
  edges : List Int
  amounts : List Int
/-- A route's value: three slices. -/
structure RV where
  p1 : Option Addr
  l1 : Nat
  c1 : Nat
  p2 : Option Addr
  l2 : Nat
  c2 : Nat
  p3 : Option Addr
  l3 : Nat
  c3 : Nat
def encRV (t : RV) : List Value := [.slice t.p1 t.l1 t.c1, .slice t.p2 t.l2 t.c2, .slice t.p3 t.l3 t.c3]
theorem encRV_one : ∀ (x : RV), ∀ v ∈ encRV x, v.oneCell' = true := by
  intro x v hv
  simp only [encRV, List.mem_cons, List.not_mem_nil, or_false] at hv
  rcases hv with rfl | rfl | rfl <;> rfl
def RtAt (B : List Blk) (t : RV) (r : RouteP) : Prop := RdL B encI 1 (.slice t.p1 t.l1 t.c1) r.nodes ∧ RdL B encI 1 (.slice t.p2 t.l2 t.c2) r.edges ∧ RdL B encU 1 (.slice t.p3 t.l3 t.c3) r.amounts
theorem RtAt.mono {B B' : List Blk} {t : RV} {r : RouteP} (h : RtAt B t r) (hs : ∀ p, p ∈ B → p ∈ B') : RtAt B' t r := ⟨h.1.mono hs, h.2.1.mono hs, h.2.2.mono hs⟩
def RtsAt (B : List Blk) (ts : List RV) (rs : List RouteP) : Prop := ts.length = rs.length ∧ ∀ i (h1 : i < ts.length) (h2 : i < rs.length), RtAt B ts[i] rs[i]
theorem RtsAt.snoc {B B' : List Blk} {ts : List RV} {rs : List RouteP} {t : RV} {r : RouteP} (h : RtsAt B ts rs) (ht : RtAt B' t r) : RtsAt (B' ++ B) (ts ++ [t]) (rs ++ [r]) := by
  refine ⟨by simp [h.1], fun i h1 h2 => ?_⟩
  by_cases hi : i < ts.length
  · have hi' : i < rs.length := by rw [← h.1]; exact hi
    rw [List.getElem_append_left hi, List.getElem_append_left hi']
    exact (h.2 i hi hi').mono fun p hp => List.mem_append_right _ hp
  · have e1 : i = ts.length := by simp at h1; omega
    have e2 : i = rs.length := by rw [← h.1]; exact e1
    have g1 : (ts ++ [t])[i] = t := by simp [e1]
    have g2 : (rs ++ [r])[i] = r := by simp [e2]
    rw [g1, g2]
    exact ht.mono fun p hp => List.mem_append_left _ hp
theorem RtsAt.mono {B B' : List Blk} {ts : List RV} {rs : List RouteP} (h : RtsAt B ts rs) (hs : ∀ p, p ∈ B → p ∈ B') : RtsAt B' ts rs := ⟨h.1, fun i h1 h2 => (h.2 i h1 h2).mono hs⟩
/-- What All has behind a way that was found. -/
noncomputable def addF (es : List Edge) (a : Int) (nodes edges : List Int) (rs : List RouteP) : List RouteP := match fillF es nodes edges a with
  | some am => rs ++ [⟨nodes, edges, am⟩]
  | none => rs
theorem lt32 {n : Nat} : (decide ((n : Int) < 32)) = decide (n < 32) := by
  by_cases h : n < 32
  · rw [decide_eq_true h, decide_eq_true (by omega)]
  · rw [decide_eq_false h, decide_eq_false (by omega)]

theorem found_ca (es : List Edge) (nodes edges : List Int) (a : Int) (sv ev nv xv ov : Value) (bw ba bo : Nat) (ts : List RV) (rs : List RouteP) (hsv : sv.oneCell' = true) (ha : isU64 a) (hg : ∀ e ∈ es, goodEdge e) (O : Out) (Bo Br F : List Blk)
    (hbw : (bw, Obj.cells [sv, ev].toArray 32 (0, 0)) ∈ F) (hba : (ba, Obj.cells [U a].toArray 26 (0, 0)) ∈ F)
    (he : RdL F encE 8 ev es) (hnv : RdL F encI 1 nv nodes) (hxv : RdL F encI 1 xv edges) (hes : es.length ≤ 1000) (hlen : edges.length ≤ nodes.length) (hnl : nodes.length ≤ 900) (hok : ∀ h ∈ nodes.zip edges, hopOk es h)
    (ho : OwnL 41 encRV 3 ov ts Bo) (hrs : RtsAt Br ts rs) (hrl : rs.length ≤ 1000) :
    CA Try.prog 21 [nv, xv, .pointer (some ⟨bw, 0, none⟩), .pointer (some ⟨ba, 0, none⟩), .pointer (some ⟨bo, 0, none⟩)] O ((bo, .cells [ov].toArray 34 (0, 0)) :: (Bo ++ (Br ++ F))) fun v L' =>
      ∃ ov' ts' Bo' Br', v = .bool (decide ((addF es a nodes edges rs).length < 32)) ∧ L' = (bo, .cells [ov'].toArray 34 (0, 0)) :: (Bo' ++ (Br' ++ F)) ∧ OwnL 41 encRV 3 ov' ts' Bo' ∧ RtsAt Br' ts' (addF es a nodes edges rs) := by
  have hF : ∀ q, q ∈ F → q ∈ (bo, Obj.cells [ov].toArray 34 (0, 0)) :: (Bo ++ (Br ++ F)) := fun q hq => List.mem_cons_of_mem _ (List.mem_append_right _ (List.mem_append_right _ hq))
  obtain ⟨pe, cape, rfl, hpe⟩ := id he
  obtain ⟨po, capo, rfl, hpo⟩ := id (ho.rd (fun _ => rfl) (by decide))
  have htl : ts.length ≤ 1000 := by rw [hrs.1]; exact hrl
  refine ca_enter Try.func21 rfl rfl ?_
  rw [Try.ntmps21]
  simp only [envOf]
  refine cg_seq ?_
  refine cg_region ?_
  refine rg_q (.inl rfl) rfl rfl (by exact QW.qr (qw_assign rfl)) ?_
  refine rg_nil ?_
  refine qg_then ?_
  refine cg_seq ?_
  refine cg_seq ?_
  refine cg_region ?_
  refine rg_q (.inl rfl) rfl rfl (by exact qr_loadN rfl (hF _ hbw) (by repeat (first | exact SegL.done | apply SegL.take | apply SegL.skip))) ?_
  refine rg_q (.inl rfl) rfl rfl (by exact QW.qr (qw_move rfl)) ?_
  refine rg_q (.inl rfl) rfl rfl (by exact QW.qr (qw_move rfl)) ?_
  refine rg_q (.inl rfl) rfl rfl (by exact qr_load1 rfl (hF _ hba) rfl) ?_
  refine rg_e (.inl rfl) rfl rfl (by exact ev_call0 rfl (.cons rfl (.cons rfl (.cons rfl (.cons rfl (.nil))))) (fill_ca es nodes edges a sv _ nv xv hsv ha hg O _ (he.mono hF) (hnv.mono hF) (hxv.mono hF) hes hlen hnl hok)) ?_
  rintro _ _ (⟨hfi, rfl, rfl⟩ | ⟨am, hfi, n2, e2, c2, B, rfl, rfl, hn2, he2, hc2⟩)
  · skip
    have hadd : addF es a nodes edges rs = rs := by rw [addF, hfi]
    refine rg_q (.inl rfl) rfl rfl (by exact QW.qr (qw_move rfl)) ?_
    refine rg_q (.inl rfl) rfl rfl (by exact QW.qr (qw_extract rfl rfl)) ?_
    refine rg_q (.inl rfl) rfl rfl (by exact QW.qr (qw_extract rfl rfl)) ?_
    refine rg_e (.inl rfl) rfl rfl (by exact ev_alloc (by first | exact CellsOf.agg | exact CellsOf.one rfl)) ?_
    rintro _ _ ⟨b8, rfl, rfl⟩
    refine rg_e0 (.inl rfl) rfl (by exact ev_store rfl rfl (by first | exact CellsOf.agg | exact CellsOf.one rfl) (by repeat (first | exact List.Mem.head _ | apply List.Mem.tail | apply List.mem_append_right | assumption)) (by repeat (first | exact SetSeg.done | apply SetSeg.take | apply SetSeg.skip)) rfl rfl (by repeat (first | exact Upd.here | apply Upd.there | apply Upd.app)) (by first | exact Or.inl ⟨inferInstance, rfl⟩ | exact Or.inr inferInstance)) ?_
    rintro _ _ ⟨rfl, rfl⟩
    refine rg_q (.inl rfl) rfl rfl (by exact QW.qr (qw_assign rfl)) ?_
    refine rg_nil ?_
    refine qg_then ?_
    refine cg_seq ?_
    refine cg_region ?_
    refine rg_q (.inl rfl) rfl rfl (by exact QW.qr (qw_move rfl)) ?_
    refine rg_nil ?_
    refine qg_then ?_
    refine cg_false rfl ?_
    refine cg_skip ?_
    refine qg_then ?_
    refine cg_seq ?_
    refine cg_region ?_
    refine rg_q (.inl rfl) rfl rfl (by exact qr_load1 rfl (by repeat (first | exact List.Mem.head _ | apply List.Mem.tail | apply List.mem_append_right | assumption)) rfl) ?_
    refine rg_q (.inl rfl) rfl rfl (by exact QW.qr (qw_len_slice (t := 34) (.cons rfl (.nil)) rfl)) ?_
    refine rg_q (.inl rfl) rfl rfl (by exact QW.qr (qw_lss rfl rfl)) ?_
    refine rg_q (.inl rfl) rfl rfl (by exact QW.qr (qw_assign rfl)) ?_
    refine rg_nil ?_
    refine qg_then ?_
    refine cg_ret ?_
    exact qg_end_sp (.inl rfl) _ (.cons (.tmp rfl) (.nil)) _ (cat_sub (ls' := [[(bo, _)], Bo, Br]) (ls := [[(b8, _)], [(bo, _)], Bo, Br]) (by repeat (first | exact SubM.nil | refine SubM.cons (by repeat (first | exact Ins.here | apply Ins.there)) ?_))) ⟨_, ts, Bo, Br, by rw [hadd, ← hrs.1]; exact congrArg Value.bool lt32, rfl, ho, by rw [hadd]; exact hrs⟩
  · skip
    have hadd : addF es a nodes edges rs = rs ++ [⟨nodes, edges, am⟩] := by rw [addF, hfi]
    obtain ⟨p1, c1, rfl, hp1⟩ := id hn2
    obtain ⟨p2, c2', rfl, hp2⟩ := id he2
    obtain ⟨p3, c3, rfl, hp3⟩ := id hc2
    refine rg_q (.inl rfl) rfl rfl (by exact QW.qr (qw_move rfl)) ?_
    refine rg_q (.inl rfl) rfl rfl (by exact QW.qr (qw_extract rfl rfl)) ?_
    refine rg_q (.inl rfl) rfl rfl (by exact QW.qr (qw_extract rfl rfl)) ?_
    refine rg_e (.inl rfl) rfl rfl (by exact ev_alloc (by first | exact CellsOf.agg | exact CellsOf.one rfl)) ?_
    rintro _ _ ⟨b8, rfl, rfl⟩
    refine rg_e0 (.inl rfl) rfl (by exact ev_store rfl rfl (by first | exact CellsOf.agg | exact CellsOf.one rfl) (by repeat (first | exact List.Mem.head _ | apply List.Mem.tail | apply List.mem_append_right | assumption)) (by repeat (first | exact SetSeg.done | apply SetSeg.take | apply SetSeg.skip)) rfl rfl (by repeat (first | exact Upd.here | apply Upd.there | apply Upd.app)) (by first | exact Or.inl ⟨inferInstance, rfl⟩ | exact Or.inr inferInstance)) ?_
    rintro _ _ ⟨rfl, rfl⟩
    refine rg_q (.inl rfl) rfl rfl (by exact QW.qr (qw_assign rfl)) ?_
    refine rg_nil ?_
    refine qg_then ?_
    refine cg_seq ?_
    refine cg_region ?_
    refine rg_q (.inl rfl) rfl rfl (by exact QW.qr (qw_move rfl)) ?_
    refine rg_nil ?_
    refine qg_then ?_
    refine cg_true rfl ?_
    refine cg_region ?_
    refine rg_q (.inl rfl) rfl rfl (by exact qr_load1 rfl (by repeat (first | exact List.Mem.head _ | apply List.Mem.tail | apply List.mem_append_right | assumption)) rfl) ?_
    refine rg_q (.inl rfl) rfl rfl (by exact qr_loadN rfl (by repeat (first | exact List.Mem.head _ | apply List.Mem.tail | apply List.mem_append_right | assumption)) (by repeat (first | exact SegL.done | apply SegL.take | apply SegL.skip))) ?_
    refine rg_e (.inl rfl) rfl rfl (by exact ev_buildSlice (.cons rfl (.nil)) rfl (by first | exact CellsOf.agg | exact CellsOf.one rfl) (by rfl) (.cons rfl (by first | exact CellsOf.agg | exact CellsOf.one rfl) (by repeat (first | exact SetSeg.done | apply SetSeg.take | apply SetSeg.skip)) (by rfl) (by rfl) (.nil))) ?_
    rintro _ _ ⟨b21, rfl, rfl⟩
    refine rg_e (.inl rfl) rfl rfl (by exact ev_appendL (ys := [⟨p1, nodes.length, c1, p2, edges.length, c2', p3, am.length, c3⟩]) (T := 34) (T2 := 34) (.cons rfl (.cons rfl .nil)) rfl rfl ho (R := cat [[_], [_], B, [_], Br] F) (cat_perm (ls' := [Bo, [_], [_], B, [_], Br]) (ls := [[_], [_], B, [_], Bo, Br]) (by repeat (first | exact PermM.nil | refine PermM.cons (by repeat (first | exact Ins.here | apply Ins.there)) ?_))) (.row (List.Mem.head _) (SegL.seg (m := 3) (by repeat (first | exact SegL.done | apply SegL.take | apply SegL.skip))).1 rfl) (fun _ => rfl) encRV_one (by simp only [List.length_singleton]; omega) rfl rfl rfl rfl) ?_
    rintro ov' _ ⟨Bo', hown', rfl⟩
    obtain ⟨po2, capo2, rfl, hpo2⟩ := id (hown'.rd (fun _ => rfl) (by decide))
    refine rg_e0 (.inl rfl) rfl (by exact ev_store rfl rfl (by first | exact CellsOf.agg | exact CellsOf.one rfl) (by repeat (first | exact List.Mem.head _ | apply List.Mem.tail | apply List.mem_append_right | assumption)) (by repeat (first | exact SetSeg.done | apply SetSeg.take | apply SetSeg.skip)) rfl rfl (by repeat (first | exact Upd.here | apply Upd.there | apply Upd.app)) (by first | exact Or.inl ⟨inferInstance, rfl⟩ | exact Or.inr inferInstance)) ?_
    rintro _ _ ⟨rfl, rfl⟩
    refine rg_nil ?_
    refine qg_then ?_
    refine cg_seq ?_
    refine cg_region ?_
    refine rg_q (.inl rfl) rfl rfl (by exact qr_load1 rfl (by repeat (first | exact List.Mem.head _ | apply List.Mem.tail | apply List.mem_append_right | assumption)) rfl) ?_
    refine rg_q (.inl rfl) rfl rfl (by exact QW.qr (qw_len_slice (t := 34) (.cons rfl (.nil)) rfl)) ?_
    refine rg_q (.inl rfl) rfl rfl (by exact QW.qr (qw_lss rfl rfl)) ?_
    refine rg_q (.inl rfl) rfl rfl (by exact QW.qr (qw_assign rfl)) ?_
    refine rg_nil ?_
    refine qg_then ?_
    refine cg_ret ?_
    exact qg_end_sp (.inl rfl) _ (.cons (.tmp rfl) (.nil)) _ (cat_sub (ls' := [[(bo, _)], Bo', B, Br]) (ls := [Bo', [(b21, _)], [(b8, _)], B, [(bo, _)], Br]) (by repeat (first | exact SubM.nil | refine SubM.cons (by repeat (first | exact Ins.here | apply Ins.there)) ?_))) ⟨_, _, Bo', B ++ Br, by rw [hadd]; exact (congrArg Value.bool lt32).trans (congrArg (fun n : Nat => Value.bool (decide (n < 32))) (by simp [hrs.1])), by rw [List.append_assoc]; rfl, hown', by rw [hadd]; exact hrs.snoc ⟨hn2, he2, hc2⟩⟩

end Go.Proofs.Ytjimpciiaceleaa