/-
  THE WALK of path's seek: it answers what the search as lists answers. Conditions: sizes; the web's numbers are of their kinds.
-/
import Derived.Test.YtjimpciiaceleaaA10
namespace Go.Proofs.Ytjimpciiaceleaa
open Fw
set_option linter.unusedVariables false
set_option maxRecDepth 100000

def FV (bw ba bo : Nat) : Value := .func (.func 21) #[] #[.pointer (some ⟨bw, 0, none⟩), .pointer (some ⟨ba, 0, none⟩), .pointer (some ⟨bo, 0, none⟩)]
def SK (sv ev : Value) (to : Int) (nv xv : Value) (bw ba bo : Nat) : Obj := .cells [sv, ev, I to, nv, xv, FV bw ba bo].toArray 80 (0, 0)
def VB (ov : Value) : Obj := .cells [ov].toArray 34 (0, 0)
/-- What seek does, d channels ahead of the bound. -/
def SeekSpec (es : List Edge) (n : Nat) (to a : Int) (sv ev : Value) (bs bw ba bo : Nat) (O : Out) (d : Nat) : Prop :=
  ∀ (F : List Blk), RdL F encE 8 ev es → (bw, Obj.cells [sv, ev].toArray 32 (0, 0)) ∈ F → (ba, Obj.cells [U a].toArray 26 (0, 0)) ∈ F →
  ∀ (nodes edges : List Int) (rs : List RouteP) (nv xv ov : Value) (ts : List RV) (Bn Bx Bo Br : List Blk), WayOk es nodes edges → edges.length + d = 7 → rs.length < 32 →
    OwnL 3 encI 1 nv nodes Bn → OwnL 3 encI 1 xv edges Bx → OwnL 41 encRV 3 ov ts Bo → RtsAt Br ts rs →
    CA Try.prog 23 [.pointer (some ⟨bs, 0, none⟩)] O (cat [[(bs, SK sv ev to nv xv bw ba bo)], Bn, Bx, [(bo, VB ov)], Bo, Br] F) fun v L' =>
      ∃ nv' xv' ov' ts' Bn' Bx' Bo' Br', v = .bool (seekF es n to a d nodes edges rs).2 ∧ L' = cat [[(bs, SK sv ev to nv' xv' bw ba bo)], Bn', Bx', [(bo, VB ov')], Bo', Br'] F ∧
        OwnL 3 encI 1 nv' nodes Bn' ∧ OwnL 3 encI 1 xv' edges Bx' ∧ OwnL 41 encRV 3 ov' ts' Bo' ∧ RtsAt Br' ts' (seekF es n to a d nodes edges rs).1
theorem stepsF_len (n : Nat) (es : List Edge) (x : Int) : (stepsF n es x).length ≤ es.length := by
  unfold stepsF
  split
  · exact stepsFrom_len x es 0
  · simp
theorem loopS_drop {f : Step → List RouteP → List RouteP × Bool} {nodes : List Int} {ss : List Step} {k : Nat} (hk : k < ss.length) (rs : List RouteP) :
    loopS f nodes (ss.drop k) rs = if 0 ≤ idxOf nodes ss[k].to then loopS f nodes (ss.drop (k + 1)) rs else if (f ss[k] rs).2 = true then loopS f nodes (ss.drop (k + 1)) (f ss[k] rs).1 else ((f ss[k] rs).1, false) := by
  rw [List.drop_eq_getElem_cons hk, loopS]

theorem seek_step (es : List Edge) (n : Nat) (to a : Int) (ps : Option Addr) (caps : Nat) (ev : Value) (bs bw ba bo : Nat) (O : Out) (d : Nat)
    (hg : ∀ e ∈ es, goodEdge e) (ha : isU64 a) (hn : n ≤ 1000) (hes : es.length ≤ 1000)
    (ih : ∀ d', d = d' + 1 → SeekSpec es n to a (.slice ps n caps) ev bs bw ba bo O d') : SeekSpec es n to a (.slice ps n caps) ev bs bw ba bo O d := by
  intro F he hbw hba nodes edges rs nv xv ov ts Bn Bx Bo Br hway hd hrl hnv hxv hov hrs
  obtain ⟨pe, cape, rfl, hpe⟩ := id he
  obtain ⟨pn, cn, rfl, hln, hcn, hsn, hRn⟩ := id (hnv.rd (fun _ => rfl) (by decide))
  obtain ⟨px, cx, rfl, hlx, hcx, hsx, hRx⟩ := id (hxv.rd (fun _ => rfl) (by decide))
  have hnl : nodes.length = edges.length + 1 := hway.1
  have hlast := lastN_get (nodes := nodes) (by omega)
  obtain ⟨bn, on, An, tn, fzn, hpn, hmn, hsegn⟩ := hRn (by omega)
  have hgl : An[on + ((nodes.length : Int) - 1).toNat * 1]? = some (I (lastN nodes)) := by
    have := hsegn.get (i := nodes.length - 1) (v := I (lastN nodes)) (by rw [show encI = fun x => [I x] from rfl, flat_one, List.getElem?_map, hlast]; rfl)
    rw [← this]; congr 1; omega
  subst hpn
  have hpad : ∀ (nv xv : Value), SK (.slice ps n caps) (.slice pe es.length cape) to nv xv bw ba bo = .cells [.slice ps n caps, .slice pe es.length cape, I to, nv, xv, FV bw ba bo].toArray 80 (0, 0) := fun _ _ => rfl
  unfold SK VB
  refine ca_enter Try.func23 rfl rfl ?_
  rw [Try.ntmps23]
  simp only [envOf]
  refine cg_seq ?_
  refine cg_region ?_
  refine rg_q (.inl rfl) rfl rfl (by exact QW.qr (qw_assign rfl)) ?_
  refine rg_nil ?_
  refine qg_then ?_
  refine cg_seq ?_
  refine cg_draw follows (.op 0 false (.op 1 false (.op 2 false (.op 3 false (.op 4 false (.op 5 false (.op 6 false (.op 7 false (.op 8 false (.op 9 false (.op 10 false (.op 11 false (.op 12 false .done))))))))))))) _ (by kernel_rfl) (SubP.of (List.Sublist.refl _)) ?_
  refine dg_w rfl rfl (.inl rfl) rfl rfl (by exact qw_move rfl) ?_
  refine dg_w rfl rfl (.inl rfl) rfl rfl (by exact qw_nilCheck rfl) ?_
  refine dg_w rfl rfl (.inl rfl) rfl rfl (by exact qw_fieldAddr rfl) ?_
  refine dg_r rfl rfl rfl (.inl rfl) rfl rfl (by exact qr_load1 rfl (by repeat (first | exact List.Mem.head _ | apply List.Mem.tail | apply List.mem_append_right | assumption)) rfl) ?_
  refine dg_w rfl rfl (.inl rfl) rfl rfl (by exact qw_move rfl) ?_
  refine dg_w rfl rfl (.inl rfl) rfl rfl (by exact qw_nilCheck rfl) ?_
  refine dg_w rfl rfl (.inl rfl) rfl rfl (by exact qw_fieldAddr rfl) ?_
  refine dg_r rfl rfl rfl (.inl rfl) rfl rfl (by exact qr_load1 rfl (by repeat (first | exact List.Mem.head _ | apply List.Mem.tail | apply List.mem_append_right | assumption)) rfl) ?_
  refine dg_w rfl rfl (.inl rfl) rfl rfl (by exact qw_len_slice (t := 38) (.cons rfl (.nil)) rfl) ?_
  refine dg_w rfl rfl (.inl rfl) rfl rfl (by exact qw_sub_in rfl rfl (by unfold inK; omega)) ?_
  refine dg_w rfl rfl (.inl rfl) rfl rfl (by exact qw_indexAddr rfl rfl (by omega) (by omega)) ?_
  refine dg_r rfl rfl rfl (.inl rfl) rfl rfl (by exact qr_load1' rfl (mem_cat (s := Bn) (by simp) hmn) hgl) ?_
  refine dg_w rfl rfl (.inl rfl) rfl rfl (by exact qw_assign rfl) ?_
  refine dg_nil ?_
  refine qg_then ?_
  refine cg_seq ?_
  refine cg_seq ?_
  refine cg_region ?_
  refine rg_q (.inl rfl) rfl rfl (by exact QW.qr (qw_move rfl)) ?_
  refine rg_q (.inl rfl) rfl rfl (by exact QW.qr (qw_move rfl)) ?_
  refine rg_q (.inl rfl) rfl rfl (by exact QW.qr (qw_nilCheck rfl)) ?_
  refine rg_q (.inl rfl) rfl rfl (by exact QW.qr (qw_fieldAddr rfl)) ?_
  refine rg_q (.inl rfl) rfl rfl (by exact qr_load1 rfl (by repeat (first | exact List.Mem.head _ | apply List.Mem.tail | apply List.mem_append_right | assumption)) rfl) ?_
  refine rg_split (.inl rfl) rfl rfl (by exact qc_eql rfl rfl) ?_ ?_
  · intro hat
    refine rg_nil ?_
    refine qg_then ?_
    refine cg_true rfl ?_
    refine cg_seq ?_
    refine cg_draw follows (.op 0 false (.op 1 false (.op 2 false (.op 3 false (.op 4 false (.op 5 false (.op 6 false (.op 7 false (.op 8 false (.op 9 false (.op 10 false (.op 11 false (.op 12 false (.op 13 false .done)))))))))))))) _ (by kernel_rfl) (SubP.of (List.Sublist.refl _)) ?_
    refine dg_w rfl rfl (.inl rfl) rfl rfl (by exact qw_move rfl) ?_
    refine dg_w rfl rfl (.inl rfl) rfl rfl (by exact qw_nilCheck rfl) ?_
    refine dg_w rfl rfl (.inl rfl) rfl rfl (by exact qw_fieldAddr rfl) ?_
    refine dg_r rfl rfl rfl (.inl rfl) rfl rfl (by exact qr_load1 rfl (by repeat (first | exact List.Mem.head _ | apply List.Mem.tail | apply List.mem_append_right | assumption)) rfl) ?_
    refine dg_w rfl rfl (.inl rfl) rfl rfl (by exact qw_move rfl) ?_
    refine dg_w rfl rfl (.inl rfl) rfl rfl (by exact qw_nilCheck rfl) ?_
    refine dg_w rfl rfl (.inl rfl) rfl rfl (by exact qw_fieldAddr rfl) ?_
    refine dg_r rfl rfl rfl (.inl rfl) rfl rfl (by exact qr_load1 rfl (by repeat (first | exact List.Mem.head _ | apply List.Mem.tail | apply List.mem_append_right | assumption)) rfl) ?_
    refine dg_w rfl rfl (.inl rfl) rfl rfl (by exact qw_move rfl) ?_
    refine dg_w rfl rfl (.inl rfl) rfl rfl (by exact qw_nilCheck rfl) ?_
    refine dg_w rfl rfl (.inl rfl) rfl rfl (by exact qw_fieldAddr rfl) ?_
    refine dg_r rfl rfl rfl (.inl rfl) rfl rfl (by exact qr_load1 rfl (by repeat (first | exact List.Mem.head _ | apply List.Mem.tail | apply List.mem_append_right | assumption)) rfl) ?_
    refine dg_g rfl rfl (.inl rfl) rfl rfl (by exact ev_call (first := []) (captured := [.pointer (some ⟨bw, 0, none⟩), .pointer (some ⟨ba, 0, none⟩), .pointer (some ⟨bo, 0, none⟩)]) rfl (.cons rfl (.cons rfl .nil)) ((found_ca es nodes edges a _ _ _ _ ov bw ba bo ts rs rfl ha hg O Bo Br (cat [[(bs, SK (.slice ps n caps) (.slice pe es.length cape) to (.slice (some ⟨bn, on, none⟩) nodes.length cn) (.slice px edges.length cx) bw ba bo)], Bn, Bx] F) (mem_catF hbw) (mem_catF hba) (he.mono (fun q hq => mem_catF hq)) ((hnv.rd (fun _ => rfl) (by decide)).mono (fun q hq => mem_cat (s := Bn) (by simp) hq)) ((hxv.rd (fun _ => rfl) (by decide)).mono (fun q hq => mem_cat (s := Bx) (by simp) hq)) hes (by omega) (by omega) hway.2 hov hrs (by omega)).pre (fun w h => h.perm (cat_perm (ls' := [[(bo, _)], Bo, Br, [(bs, _)], Bn, Bx]) (ls := [[(bs, _)], Bn, Bx, [(bo, _)], Bo, Br]) (by repeat (first | exact PermM.nil | refine PermM.cons (by repeat (first | exact Ins.here | apply Ins.there)) ?_)))))) ?_
    rintro _ _ ⟨ov', ts', Bo', Br', rfl, rfl, hov', hrs'⟩
    refine dg_w rfl rfl (.inl rfl) rfl rfl (by exact qw_assign rfl) ?_
    refine dg_nil ?_
    refine qg_then ?_
    refine cg_ret ?_
    refine qg_then_ret ?_
    have hsk : seekF es n to a d nodes edges rs = (addF es a nodes edges rs, decide ((addF es a nodes edges rs).length < 32)) := by
      cases d <;> (unfold seekF; rw [if_pos hat])
    exact qg_end_sp (.inl rfl) _ (.cons (.tmp rfl) (.nil)) _ (cat_sub (ls' := [[(bs, _)], Bn, Bx, [(bo, _)], Bo', Br']) (ls := [[(bo, _)], Bo', Br', [(bs, _)], Bn, Bx]) (by repeat (first | exact SubM.nil | refine SubM.cons (by repeat (first | exact Ins.here | apply Ins.there)) ?_))) ⟨_, _, ov', ts', Bn, Bx, Bo', Br', by rw [hsk]; rfl, rfl, hnv, hxv, hov', by rw [hsk]; exact hrs'⟩
  · intro hat
    refine rg_nil ?_
    refine qg_then ?_
    refine cg_false rfl ?_
    refine cg_skip ?_
    refine qg_then ?_
    refine cg_seq ?_
    refine cg_seq ?_
    refine cg_region ?_
    refine rg_q (.inl rfl) rfl rfl (by exact QW.qr (qw_move rfl)) ?_
    refine rg_q (.inl rfl) rfl rfl (by exact QW.qr (qw_nilCheck rfl)) ?_
    refine rg_q (.inl rfl) rfl rfl (by exact QW.qr (qw_fieldAddr rfl)) ?_
    refine rg_q (.inl rfl) rfl rfl (by exact qr_load1 rfl (by repeat (first | exact List.Mem.head _ | apply List.Mem.tail | apply List.mem_append_right | assumption)) rfl) ?_
    refine rg_q (.inl rfl) rfl rfl (by exact QW.qr (qw_len_slice (t := 38) (.cons rfl (.nil)) rfl)) ?_
    refine rg_split (.inl rfl) rfl rfl (by exact qc_geq rfl rfl) ?_ ?_
    · intro h7
      obtain rfl : d = 0 := by omega
      have hsk : seekF es n to a 0 nodes edges rs = (rs, true) := by
        rw [seekF, if_neg hat]
      refine rg_nil ?_
      refine qg_then ?_
      refine cg_true rfl ?_
      refine cg_seq ?_
      refine cg_region ?_
      refine rg_q (.inl rfl) rfl rfl (by exact QW.qr (qw_assign rfl)) ?_
      refine rg_nil ?_
      refine qg_then ?_
      refine cg_ret ?_
      refine qg_then_ret ?_
      exact qg_end_sp (.inl rfl) _ (.cons (.tmp rfl) (.nil)) _ (SubP.of (List.Sublist.refl _)) ⟨_, _, ov, ts, Bn, Bx, Bo, Br, by rw [hsk]; rfl, rfl, hnv, hxv, hov, by rw [hsk]; exact hrs⟩
    · intro h7
      obtain ⟨d', rfl⟩ : ∃ d', d = d' + 1 := ⟨d - 1, by omega⟩
      have hsk : seekF es n to a (d' + 1) nodes edges rs = loopS (fun s rs => seekF es n to a d' (nodes ++ [s.to]) (edges ++ [s.edge]) rs) nodes (stepsF n es (lastN nodes)) rs := by
        rw [seekF, if_neg hat]
      replace ih := ih d' rfl
      refine rg_nil ?_
      refine qg_then ?_
      refine cg_false rfl ?_
      refine cg_skip ?_
      refine qg_then ?_
      refine cg_seq ?_
      refine cg_seq ?_
      refine cg_region ?_
      refine rg_q (.inl rfl) rfl rfl (by exact QW.qr (qw_move rfl)) ?_
      refine rg_q (.inl rfl) rfl rfl (by exact QW.qr (qw_nilCheck rfl)) ?_
      refine rg_q (.inl rfl) rfl rfl (by exact QW.qr (qw_fieldAddr rfl)) ?_
      refine rg_q (.inl rfl) rfl rfl (by exact qr_loadN rfl (by repeat (first | exact List.Mem.head _ | apply List.Mem.tail | apply List.mem_append_right | assumption)) (by repeat (first | exact SegL.done | apply SegL.take | apply SegL.skip))) ?_
      refine rg_q (.inl rfl) rfl rfl (by exact QW.qr (qw_move rfl)) ?_
      refine rg_e (.inl rfl) rfl rfl (by exact ev_call0 rfl (.cons rfl (.cons rfl (.nil))) (steps_ca n es (lastN nodes) ps caps _ O _ (he.mono (fun q hq => mem_catF hq)) (by omega) (by omega))) ?_
      rintro stv _ ⟨Bs, rfl, hst⟩
      obtain ⟨pst, cst, rfl, hlst, hcst, hsst, hRst⟩ := id hst
      refine rg_q (.inl rfl) rfl rfl (by exact QW.qr (qw_len_slice (t := 100) (.cons rfl (.nil)) rfl)) ?_
      refine rg_q (.inl rfl) rfl rfl (by exact QW.qr (qw_move rfl)) ?_
      refine rg_nil ?_
      refine qg_then ?_
      refine cg_block ?_
      refine cg_loop (fun E' L' m => ∃ (k : Nat) (rk : List RouteP) (nv xv ov : Value) (ts : List RV) (Bn Bx Bo Br : List Blk), k ≤ (stepsF n es (lastN nodes)).length ∧ rk.length < 32 ∧
        loopS (fun s rs => seekF es n to a d' (nodes ++ [s.to]) (edges ++ [s.edge]) rs) nodes (stepsF n es (lastN nodes)) rs = loopS (fun s rs => seekF es n to a d' (nodes ++ [s.to]) (edges ++ [s.edge]) rs) nodes ((stepsF n es (lastN nodes)).drop k) rk ∧
        OwnL 3 encI 1 nv nodes Bn ∧ OwnL 3 encI 1 xv edges Bx ∧ OwnL 41 encRV 3 ov ts Bo ∧ RtsAt Br ts rk ∧
        E' = [(0, .pointer (some ⟨bs, 0, none⟩)), (49, .slice pst (stepsF n es (lastN nodes)).length cst), (50, .int .i64 (stepsF n es (lastN nodes)).length), (51, .int .i64 k)] ∧
        L' = cat [Bs, [(bs, SK (.slice ps n caps) (.slice pe es.length cape) to nv xv bw ba bo)], Bn, Bx, [(bo, VB ov)], Bo, Br] F ∧ m = (stepsF n es (lastN nodes)).length - k)
        _ _ _ ⟨0, rs, _, _, ov, ts, Bn, Bx, Bo, Br, by omega, hrl, rfl, hnv, hxv, hov, hrs, rfl, rfl, rfl⟩ (by repeat (first | exact Sub.nil | refine Sub.cons rfl ?_ | refine Sub.cons (congrArg (fun z => some (Value.int IntKind.i64 z)) (by omega)) ?_)) (List.Perm.refl _) ?_
      clear hgl hmn hsegn hRn hln hcn hsn hnv hxv hov hrs hlx hcx hsx hRx hrl
      rintro _ _ _ ⟨k, rk, nv, xv, ov, ts, Bn, Bx, Bo, Br, hk, hrl, hloop, hnv, hxv, hov, hrs, rfl, rfl, rfl⟩
      obtain ⟨pn, cn, rfl, hln, hcn, hsn, hRn⟩ := id (hnv.rd (fun _ => rfl) (by decide))
      obtain ⟨px, cx, rfl, hlx, hcx, hsx, hRx⟩ := id (hxv.rd (fun _ => rfl) (by decide))
      unfold SK VB
      refine cg_seq ?_
      refine cg_region ?_
      refine rg_split (.inl rfl) rfl rfl (by exact qc_lss rfl rfl) ?_ ?_
      · intro hlt
        have hklt : k < (stepsF n es (lastN nodes)).length := by omega
        obtain ⟨b0, o0, A0, t0, fz0, rfl, hm0, hseg⟩ := hRst (by omega)
        have hfe := hseg.elem (enc := encS) (k := 5) (fun _ => rfl) hklt
        have hsl := stepsF_len n es (lastN nodes)
        obtain ⟨s, hs⟩ : ∃ s, s = (stepsF n es (lastN nodes))[k] := ⟨_, rfl⟩
        have hsm : s ∈ stepsF n es (lastN nodes) := by rw [hs]; exact List.getElem_mem hklt
        rw [← hs] at hfe
        rw [loopS_drop hklt, ← hs] at hloop
        refine rg_nil ?_
        refine qg_then ?_
        refine cg_seq ?_
        refine cg_true rfl ?_
        refine cg_skip ?_
        refine qg_then ?_
        refine cg_seq ?_
        refine cg_block ?_
        refine cg_seq ?_
        refine cg_region ?_
        refine rg_q (.inl rfl) rfl rfl (by exact QW.qr (qw_indexAddr rfl rfl (by omega) (by omega))) ?_
        refine rg_q (.inl rfl) rfl rfl (by exact qr_loadS rfl (mem_cat (s := Bs) (by simp) hm0) hfe rfl) ?_
        refine rg_e (.inl rfl) rfl rfl (by exact ev_alloc (by first | exact CellsOf.agg | exact CellsOf.one rfl)) ?_
        rintro _ _ ⟨b5, rfl, rfl⟩
        refine rg_e0 (.inl rfl) rfl (by exact ev_store rfl rfl (by first | exact CellsOf.agg | exact CellsOf.one rfl) (by repeat (first | exact List.Mem.head _ | apply List.Mem.tail | apply List.mem_append_right | assumption)) (by repeat (first | exact SetSeg.done | apply SetSeg.take | apply SetSeg.skip)) rfl rfl (by repeat (first | exact Upd.here | apply Upd.there | apply Upd.app)) (by first | exact Or.inl ⟨inferInstance, rfl⟩ | exact Or.inr inferInstance)) ?_
        rintro _ _ ⟨rfl, rfl⟩
        refine rg_nil ?_
        refine qg_then ?_
        refine cg_seq ?_
        refine cg_seq ?_
        refine cg_draw follows (.op 0 false (.op 1 false (.op 2 false (.op 3 false (.op 4 false (.op 5 false (.op 6 false .done))))))) _ (by kernel_rfl) (SubP.of (List.Sublist.refl _)) ?_
        refine dg_w rfl rfl (.inl rfl) rfl rfl (by exact qw_move rfl) ?_
        refine dg_w rfl rfl (.inl rfl) rfl rfl (by exact qw_nilCheck rfl) ?_
        refine dg_w rfl rfl (.inl rfl) rfl rfl (by exact qw_fieldAddr rfl) ?_
        refine dg_r rfl rfl rfl (.inl rfl) rfl rfl (by exact qr_load1 rfl (by repeat (first | exact List.Mem.head _ | apply List.Mem.tail | apply List.mem_append_right | assumption)) rfl) ?_
        refine dg_w rfl rfl (.inl rfl) rfl rfl (by exact qw_fieldAddr rfl) ?_
        refine dg_r rfl rfl rfl (.inl rfl) rfl rfl (by exact qr_load1 rfl (by repeat (first | exact List.Mem.head _ | apply List.Mem.tail | apply List.mem_append_right | assumption)) rfl) ?_
        refine dg_g rfl rfl (.inl rfl) rfl rfl (by exact ev_call0 rfl (.cons rfl (.cons rfl (.nil))) (contains_ca nodes s.to _ O _ ((hnv.rd (fun _ => rfl) (by decide)).mono (fun q hq => List.mem_cons_of_mem _ (mem_cat (s := Bn) (by simp) hq))) (by omega))) ?_
        rintro _ _ ⟨rfl, rfl⟩
        generalize hin : decide (0 ≤ idxOf nodes s.to) = dv
        cases dv
        · skip
          refine dg_nil ?_
          refine qg_then ?_
          refine cg_false rfl ?_
          refine cg_skip ?_
          refine qg_then ?_
          refine cg_cut (fun E' L' => ∃ (nv xv : Value) (Bn Bx : List Blk), OwnL 3 encI 1 nv (nodes ++ [s.to]) Bn ∧ OwnL 3 encI 1 xv (edges ++ [s.edge]) Bx ∧
            E' = [(0, .pointer (some ⟨bs, 0, none⟩)), (49, .slice (some ⟨b0, o0, none⟩) (stepsF n es (lastN nodes)).length cst), (50, .int .i64 (stepsF n es (lastN nodes)).length), (51, .int .i64 k)] ∧
            L' = cat [Bs, [(bs, SK (.slice ps n caps) (.slice pe es.length cape) to nv xv bw ba bo)], Bn, Bx, [(bo, VB ov)], Bo, Br] F) ?_ ?_
          · -- the first part
            refine cg_draw follows (.op 0 false (.op 1 false (.op 2 false (.op 3 false (.op 4 false (.op 5 false (.op 6 false (.op 7 false (.op 10 false (.op 11 false (.op 12 false (.op 13 false (.op 14 false (.op 15 false (.two 8 true (.two 9 true (.op 16 true (.op 17 false (.op 18 false (.op 19 false (.op 20 false (.op 21 false (.op 22 false (.op 23 false .done)))))))) 16 true (.op 9 true (.op 17 false (.op 18 false (.op 19 false (.op 20 false (.op 21 false (.op 22 false (.op 23 false .done))))))))) 16 true (.op 8 true (.op 9 true (.op 17 false (.op 18 false (.op 19 false (.op 20 false (.op 21 false (.op 22 false (.op 23 false .done)))))))))))))))))))))))) _ (by kernel_rfl) (cat_sub (ls' := [[(b5, _)], [(bs, _)]]) (ls := [[(b5, _)], Bs, [(bs, _)], Bn, Bx, [(bo, _)], Bo, Br]) (by repeat (first | exact SubM.nil | refine SubM.cons (by repeat (first | exact Ins.here | apply Ins.there)) ?_))) ?_
            refine dg_w rfl rfl (.inl rfl) rfl rfl (by exact qw_move rfl) ?_
            refine dg_w rfl rfl (.inl rfl) rfl rfl (by exact qw_move rfl) ?_
            refine dg_w rfl rfl (.inl rfl) rfl rfl (by exact qw_move rfl) ?_
            refine dg_w rfl rfl (.inl rfl) rfl rfl (by exact qw_nilCheck rfl) ?_
            refine dg_w rfl rfl (.inl rfl) rfl rfl (by exact qw_fieldAddr rfl) ?_
            refine dg_r rfl rfl rfl (.inl rfl) rfl rfl (by exact qr_load1 rfl (by repeat (first | exact List.Mem.head _ | apply List.Mem.tail | apply List.mem_append_right | assumption)) rfl) ?_
            refine dg_w rfl rfl (.inl rfl) rfl rfl (by exact qw_fieldAddr rfl) ?_
            refine dg_r rfl rfl rfl (.inl rfl) rfl rfl (by exact qr_load1 rfl (by repeat (first | exact List.Mem.head _ | apply List.Mem.tail | apply List.mem_append_right | assumption)) rfl) ?_
            refine dg_w rfl rfl (.inl rfl) rfl rfl (by exact qw_move rfl) ?_
            refine dg_w rfl rfl (.inl rfl) rfl rfl (by exact qw_nilCheck rfl) ?_
            refine dg_w rfl rfl (.inl rfl) rfl rfl (by exact qw_fieldAddr rfl) ?_
            refine dg_r rfl rfl rfl (.inl rfl) rfl rfl (by exact qr_load1 rfl (by repeat (first | exact List.Mem.head _ | apply List.Mem.tail | apply List.mem_append_right | assumption)) rfl) ?_
            refine dg_w rfl rfl (.inl rfl) rfl rfl (by exact qw_fieldAddr rfl) ?_
            refine dg_r rfl rfl rfl (.inl rfl) rfl rfl (by exact qr_load1 rfl (by repeat (first | exact List.Mem.head _ | apply List.Mem.tail | apply List.mem_append_right | assumption)) rfl) ?_
            refine dg_two rfl rfl ?_ ?_
            · skip
              refine dg_e rfl rfl (.inl rfl) rfl rfl (by exact ev_buildSlice (.cons rfl (.nil)) rfl (by first | exact CellsOf.agg | exact CellsOf.one rfl) (by rfl) (.cons rfl (by first | exact CellsOf.agg | exact CellsOf.one rfl) (by repeat (first | exact SetSeg.done | apply SetSeg.take | apply SetSeg.skip)) (by rfl) (by rfl) (.nil))) ?_
              rintro _ _ ⟨b70, rfl, rfl⟩
              refine ⟨(cat_sub (ls' := [[(b5, _)], [(bs, _)]]) (ls := [[(b70, _)], [(b5, _)], Bs, [(bs, _)], Bn, Bx, [(bo, _)], Bo, Br]) (by repeat (first | exact SubM.nil | refine SubM.cons (by repeat (first | exact Ins.here | apply Ins.there)) ?_))), ?_⟩
              refine dg_two rfl rfl ?_ ?_
              · skip
                refine dg_e rfl rfl (.inl rfl) rfl rfl (by exact ev_appendL (ys := [s.to]) (T := 38) (T2 := 38) (.cons rfl (.cons rfl .nil)) rfl rfl hnv (R := cat [[(b70, _)], [(b5, _)], Bs, [(bs, _)], Bx, [(bo, _)], Bo, Br] F) (cat_perm (ls' := [Bn, [(b70, _)], [(b5, _)], Bs, [(bs, _)], Bx, [(bo, _)], Bo, Br]) (ls := [[(b70, _)], [(b5, _)], Bs, [(bs, _)], Bn, Bx, [(bo, _)], Bo, Br]) (by repeat (first | exact PermM.nil | refine PermM.cons (by repeat (first | exact Ins.here | apply Ins.there)) ?_))) (.row (mem_cat (s := [(b70, _)]) (by repeat (first | exact List.Mem.head _ | apply List.Mem.tail)) (List.Mem.head _)) (SegL.seg (m := 1) (by repeat (first | exact SegL.done | apply SegL.take | apply SegL.skip))).1 rfl) (fun _ => rfl) encI_one (by simp only [List.length_singleton]; omega) rfl rfl rfl rfl) ?_
                rintro nv2 _ ⟨Bn2, hn2, rfl⟩
                obtain ⟨pn2, cn2, rfl, hq2⟩ := id (hn2.rd (fun _ => rfl) (by decide))
                refine ⟨(cat_sub (ls' := [[(b5, _)], [(bs, _)]]) (ls := [Bn2, [(b70, _)], [(b5, _)], Bs, [(bs, _)], Bx, [(bo, _)], Bo, Br]) (by repeat (first | exact SubM.nil | refine SubM.cons (by repeat (first | exact Ins.here | apply Ins.there)) ?_))), ?_⟩
                refine dg_e rfl rfl (.inl rfl) rfl rfl (by exact ev_buildSlice (.cons rfl (.nil)) rfl (by first | exact CellsOf.agg | exact CellsOf.one rfl) (by rfl) (.cons rfl (by first | exact CellsOf.agg | exact CellsOf.one rfl) (by repeat (first | exact SetSeg.done | apply SetSeg.take | apply SetSeg.skip)) (by rfl) (by rfl) (.nil))) ?_
                rintro _ _ ⟨b78, rfl, rfl⟩
                refine ⟨(cat_sub (ls' := [[(b5, _)], [(bs, _)]]) (ls := [[(b78, _)], Bn2, [(b70, _)], [(b5, _)], Bs, [(bs, _)], Bx, [(bo, _)], Bo, Br]) (by repeat (first | exact SubM.nil | refine SubM.cons (by repeat (first | exact Ins.here | apply Ins.there)) ?_))), ?_⟩
                refine dg_g rfl rfl (.inl rfl) rfl rfl (by exact ev_appendL (ys := [s.edge]) (T := 38) (T2 := 38) (.cons rfl (.cons rfl .nil)) rfl rfl hxv (R := cat [[(b78, _)], Bn2, [(b70, _)], [(b5, _)], Bs, [(bs, _)], [(bo, _)], Bo, Br] F) (cat_perm (ls' := [Bx, [(b78, _)], Bn2, [(b70, _)], [(b5, _)], Bs, [(bs, _)], [(bo, _)], Bo, Br]) (ls := [[(b78, _)], Bn2, [(b70, _)], [(b5, _)], Bs, [(bs, _)], Bx, [(bo, _)], Bo, Br]) (by repeat (first | exact PermM.nil | refine PermM.cons (by repeat (first | exact Ins.here | apply Ins.there)) ?_))) (.row (mem_cat (s := [(b78, _)]) (by repeat (first | exact List.Mem.head _ | apply List.Mem.tail)) (List.Mem.head _)) (SegL.seg (m := 1) (by repeat (first | exact SegL.done | apply SegL.take | apply SegL.skip))).1 rfl) (fun _ => rfl) encI_one (by simp only [List.length_singleton]; omega) rfl rfl rfl rfl) ?_
                rintro xv2 _ ⟨Bx2, hx2, rfl⟩
                obtain ⟨px2, cx2, rfl, hq3⟩ := id (hx2.rd (fun _ => rfl) (by decide))
                refine dg_w rfl rfl (.inl rfl) rfl rfl (by exact qw_nilCheck rfl) ?_
                refine dg_w rfl rfl (.inl rfl) rfl rfl (by exact qw_fieldAddr rfl) ?_
                refine dg_g0 rfl rfl (.inl rfl) rfl (by exact ev_store rfl rfl (by first | exact CellsOf.agg | exact CellsOf.one rfl) (by repeat (first | exact List.Mem.head _ | apply List.Mem.tail | apply List.mem_append_right | assumption)) (by repeat (first | exact SetSeg.done | apply SetSeg.take | apply SetSeg.skip)) rfl rfl (by repeat (first | exact Upd.here | apply Upd.there | apply Upd.app)) (by first | exact Or.inl ⟨inferInstance, rfl⟩ | exact Or.inr inferInstance)) ?_
                rintro _ _ ⟨rfl, rfl⟩
                refine dg_w rfl rfl (.inl rfl) rfl rfl (by exact qw_nilCheck rfl) ?_
                refine dg_w rfl rfl (.inl rfl) rfl rfl (by exact qw_fieldAddr rfl) ?_
                refine dg_g0 rfl rfl (.inl rfl) rfl (by exact ev_store rfl rfl (by first | exact CellsOf.agg | exact CellsOf.one rfl) (by repeat (first | exact List.Mem.head _ | apply List.Mem.tail | apply List.mem_append_right | assumption)) (by repeat (first | exact SetSeg.done | apply SetSeg.take | apply SetSeg.skip)) rfl rfl (by repeat (first | exact Upd.here | apply Upd.there | apply Upd.app)) (by first | exact Or.inl ⟨inferInstance, rfl⟩ | exact Or.inr inferInstance)) ?_
                rintro _ _ ⟨rfl, rfl⟩
                refine dg_nil ?_
                first
                  | exact qg_cut_sp _ _ ⟨_, _, Bn2, Bx2, hn2, hx2, rfl, rfl⟩ (by repeat (first | exact Sub.nil | refine Sub.cons rfl ?_ | refine Sub.cons (congrArg (fun z => some (Value.int IntKind.i64 z)) (by omega)) ?_)) (cat_sub (ls' := [Bs, [(bs, _)], Bn2, Bx2, [(bo, _)], Bo, Br]) (ls := [Bx2, [(b78, _)], Bn2, [(b70, _)], [(b5, _)], Bs, [(bs, _)], [(bo, _)], Bo, Br]) (by repeat (first | exact SubM.nil | refine SubM.cons (by repeat (first | exact Ins.here | apply Ins.there)) ?_)))
                  | exact qg_cut_sp _ _ ⟨_, _, Bn2, Bx2, hn2, hx2, rfl, rfl⟩ (by repeat (first | exact Sub.nil | refine Sub.cons rfl ?_ | refine Sub.cons (congrArg (fun z => some (Value.int IntKind.i64 z)) (by omega)) ?_)) (cat_sub (ls' := [Bs, [(bs, _)], Bn2, Bx2, [(bo, _)], Bo, Br]) (ls := [Bx2, Bn2, [(b78, _)], [(b70, _)], [(b5, _)], Bs, [(bs, _)], [(bo, _)], Bo, Br]) (by repeat (first | exact SubM.nil | refine SubM.cons (by repeat (first | exact Ins.here | apply Ins.there)) ?_)))
                  | exact qg_cut_sp _ _ ⟨_, _, Bn2, Bx2, hn2, hx2, rfl, rfl⟩ (by repeat (first | exact Sub.nil | refine Sub.cons rfl ?_ | refine Sub.cons (congrArg (fun z => some (Value.int IntKind.i64 z)) (by omega)) ?_)) (cat_sub (ls' := [Bs, [(bs, _)], Bn2, Bx2, [(bo, _)], Bo, Br]) (ls := [Bx2, Bn2, [(b70, _)], [(b78, _)], [(b5, _)], Bs, [(bs, _)], [(bo, _)], Bo, Br]) (by repeat (first | exact SubM.nil | refine SubM.cons (by repeat (first | exact Ins.here | apply Ins.there)) ?_)))
              · skip
                refine dg_e rfl rfl (.inl rfl) rfl rfl (by exact ev_buildSlice (.cons rfl (.nil)) rfl (by first | exact CellsOf.agg | exact CellsOf.one rfl) (by rfl) (.cons rfl (by first | exact CellsOf.agg | exact CellsOf.one rfl) (by repeat (first | exact SetSeg.done | apply SetSeg.take | apply SetSeg.skip)) (by rfl) (by rfl) (.nil))) ?_
                rintro _ _ ⟨b78, rfl, rfl⟩
                refine ⟨(cat_sub (ls' := [[(b5, _)], [(bs, _)]]) (ls := [[(b78, _)], [(b70, _)], [(b5, _)], Bs, [(bs, _)], Bn, Bx, [(bo, _)], Bo, Br]) (by repeat (first | exact SubM.nil | refine SubM.cons (by repeat (first | exact Ins.here | apply Ins.there)) ?_))), ?_⟩
                refine dg_e rfl rfl (.inl rfl) rfl rfl (by exact ev_appendL (ys := [s.to]) (T := 38) (T2 := 38) (.cons rfl (.cons rfl .nil)) rfl rfl hnv (R := cat [[(b78, _)], [(b70, _)], [(b5, _)], Bs, [(bs, _)], Bx, [(bo, _)], Bo, Br] F) (cat_perm (ls' := [Bn, [(b78, _)], [(b70, _)], [(b5, _)], Bs, [(bs, _)], Bx, [(bo, _)], Bo, Br]) (ls := [[(b78, _)], [(b70, _)], [(b5, _)], Bs, [(bs, _)], Bn, Bx, [(bo, _)], Bo, Br]) (by repeat (first | exact PermM.nil | refine PermM.cons (by repeat (first | exact Ins.here | apply Ins.there)) ?_))) (.row (mem_cat (s := [(b70, _)]) (by repeat (first | exact List.Mem.head _ | apply List.Mem.tail)) (List.Mem.head _)) (SegL.seg (m := 1) (by repeat (first | exact SegL.done | apply SegL.take | apply SegL.skip))).1 rfl) (fun _ => rfl) encI_one (by simp only [List.length_singleton]; omega) rfl rfl rfl rfl) ?_
                rintro nv2 _ ⟨Bn2, hn2, rfl⟩
                obtain ⟨pn2, cn2, rfl, hq2⟩ := id (hn2.rd (fun _ => rfl) (by decide))
                refine ⟨(cat_sub (ls' := [[(b5, _)], [(bs, _)]]) (ls := [Bn2, [(b78, _)], [(b70, _)], [(b5, _)], Bs, [(bs, _)], Bx, [(bo, _)], Bo, Br]) (by repeat (first | exact SubM.nil | refine SubM.cons (by repeat (first | exact Ins.here | apply Ins.there)) ?_))), ?_⟩
                refine dg_g rfl rfl (.inl rfl) rfl rfl (by exact ev_appendL (ys := [s.edge]) (T := 38) (T2 := 38) (.cons rfl (.cons rfl .nil)) rfl rfl hxv (R := cat [Bn2, [(b78, _)], [(b70, _)], [(b5, _)], Bs, [(bs, _)], [(bo, _)], Bo, Br] F) (cat_perm (ls' := [Bx, Bn2, [(b78, _)], [(b70, _)], [(b5, _)], Bs, [(bs, _)], [(bo, _)], Bo, Br]) (ls := [Bn2, [(b78, _)], [(b70, _)], [(b5, _)], Bs, [(bs, _)], Bx, [(bo, _)], Bo, Br]) (by repeat (first | exact PermM.nil | refine PermM.cons (by repeat (first | exact Ins.here | apply Ins.there)) ?_))) (.row (mem_cat (s := [(b78, _)]) (by repeat (first | exact List.Mem.head _ | apply List.Mem.tail)) (List.Mem.head _)) (SegL.seg (m := 1) (by repeat (first | exact SegL.done | apply SegL.take | apply SegL.skip))).1 rfl) (fun _ => rfl) encI_one (by simp only [List.length_singleton]; omega) rfl rfl rfl rfl) ?_
                rintro xv2 _ ⟨Bx2, hx2, rfl⟩
                obtain ⟨px2, cx2, rfl, hq3⟩ := id (hx2.rd (fun _ => rfl) (by decide))
                refine dg_w rfl rfl (.inl rfl) rfl rfl (by exact qw_nilCheck rfl) ?_
                refine dg_w rfl rfl (.inl rfl) rfl rfl (by exact qw_fieldAddr rfl) ?_
                refine dg_g0 rfl rfl (.inl rfl) rfl (by exact ev_store rfl rfl (by first | exact CellsOf.agg | exact CellsOf.one rfl) (by repeat (first | exact List.Mem.head _ | apply List.Mem.tail | apply List.mem_append_right | assumption)) (by repeat (first | exact SetSeg.done | apply SetSeg.take | apply SetSeg.skip)) rfl rfl (by repeat (first | exact Upd.here | apply Upd.there | apply Upd.app)) (by first | exact Or.inl ⟨inferInstance, rfl⟩ | exact Or.inr inferInstance)) ?_
                rintro _ _ ⟨rfl, rfl⟩
                refine dg_w rfl rfl (.inl rfl) rfl rfl (by exact qw_nilCheck rfl) ?_
                refine dg_w rfl rfl (.inl rfl) rfl rfl (by exact qw_fieldAddr rfl) ?_
                refine dg_g0 rfl rfl (.inl rfl) rfl (by exact ev_store rfl rfl (by first | exact CellsOf.agg | exact CellsOf.one rfl) (by repeat (first | exact List.Mem.head _ | apply List.Mem.tail | apply List.mem_append_right | assumption)) (by repeat (first | exact SetSeg.done | apply SetSeg.take | apply SetSeg.skip)) rfl rfl (by repeat (first | exact Upd.here | apply Upd.there | apply Upd.app)) (by first | exact Or.inl ⟨inferInstance, rfl⟩ | exact Or.inr inferInstance)) ?_
                rintro _ _ ⟨rfl, rfl⟩
                refine dg_nil ?_
                first
                  | exact qg_cut_sp _ _ ⟨_, _, Bn2, Bx2, hn2, hx2, rfl, rfl⟩ (by repeat (first | exact Sub.nil | refine Sub.cons rfl ?_ | refine Sub.cons (congrArg (fun z => some (Value.int IntKind.i64 z)) (by omega)) ?_)) (cat_sub (ls' := [Bs, [(bs, _)], Bn2, Bx2, [(bo, _)], Bo, Br]) (ls := [Bx2, [(b78, _)], Bn2, [(b70, _)], [(b5, _)], Bs, [(bs, _)], [(bo, _)], Bo, Br]) (by repeat (first | exact SubM.nil | refine SubM.cons (by repeat (first | exact Ins.here | apply Ins.there)) ?_)))
                  | exact qg_cut_sp _ _ ⟨_, _, Bn2, Bx2, hn2, hx2, rfl, rfl⟩ (by repeat (first | exact Sub.nil | refine Sub.cons rfl ?_ | refine Sub.cons (congrArg (fun z => some (Value.int IntKind.i64 z)) (by omega)) ?_)) (cat_sub (ls' := [Bs, [(bs, _)], Bn2, Bx2, [(bo, _)], Bo, Br]) (ls := [Bx2, Bn2, [(b78, _)], [(b70, _)], [(b5, _)], Bs, [(bs, _)], [(bo, _)], Bo, Br]) (by repeat (first | exact SubM.nil | refine SubM.cons (by repeat (first | exact Ins.here | apply Ins.there)) ?_)))
                  | exact qg_cut_sp _ _ ⟨_, _, Bn2, Bx2, hn2, hx2, rfl, rfl⟩ (by repeat (first | exact Sub.nil | refine Sub.cons rfl ?_ | refine Sub.cons (congrArg (fun z => some (Value.int IntKind.i64 z)) (by omega)) ?_)) (cat_sub (ls' := [Bs, [(bs, _)], Bn2, Bx2, [(bo, _)], Bo, Br]) (ls := [Bx2, Bn2, [(b70, _)], [(b78, _)], [(b5, _)], Bs, [(bs, _)], [(bo, _)], Bo, Br]) (by repeat (first | exact SubM.nil | refine SubM.cons (by repeat (first | exact Ins.here | apply Ins.there)) ?_)))
            · skip
              refine dg_e rfl rfl (.inl rfl) rfl rfl (by exact ev_buildSlice (.cons rfl (.nil)) rfl (by first | exact CellsOf.agg | exact CellsOf.one rfl) (by rfl) (.cons rfl (by first | exact CellsOf.agg | exact CellsOf.one rfl) (by repeat (first | exact SetSeg.done | apply SetSeg.take | apply SetSeg.skip)) (by rfl) (by rfl) (.nil))) ?_
              rintro _ _ ⟨b78, rfl, rfl⟩
              refine ⟨(cat_sub (ls' := [[(b5, _)], [(bs, _)]]) (ls := [[(b78, _)], [(b5, _)], Bs, [(bs, _)], Bn, Bx, [(bo, _)], Bo, Br]) (by repeat (first | exact SubM.nil | refine SubM.cons (by repeat (first | exact Ins.here | apply Ins.there)) ?_))), ?_⟩
              refine dg_e rfl rfl (.inl rfl) rfl rfl (by exact ev_buildSlice (.cons rfl (.nil)) rfl (by first | exact CellsOf.agg | exact CellsOf.one rfl) (by rfl) (.cons rfl (by first | exact CellsOf.agg | exact CellsOf.one rfl) (by repeat (first | exact SetSeg.done | apply SetSeg.take | apply SetSeg.skip)) (by rfl) (by rfl) (.nil))) ?_
              rintro _ _ ⟨b70, rfl, rfl⟩
              refine ⟨(cat_sub (ls' := [[(b5, _)], [(bs, _)]]) (ls := [[(b70, _)], [(b78, _)], [(b5, _)], Bs, [(bs, _)], Bn, Bx, [(bo, _)], Bo, Br]) (by repeat (first | exact SubM.nil | refine SubM.cons (by repeat (first | exact Ins.here | apply Ins.there)) ?_))), ?_⟩
              refine dg_e rfl rfl (.inl rfl) rfl rfl (by exact ev_appendL (ys := [s.to]) (T := 38) (T2 := 38) (.cons rfl (.cons rfl .nil)) rfl rfl hnv (R := cat [[(b70, _)], [(b78, _)], [(b5, _)], Bs, [(bs, _)], Bx, [(bo, _)], Bo, Br] F) (cat_perm (ls' := [Bn, [(b70, _)], [(b78, _)], [(b5, _)], Bs, [(bs, _)], Bx, [(bo, _)], Bo, Br]) (ls := [[(b70, _)], [(b78, _)], [(b5, _)], Bs, [(bs, _)], Bn, Bx, [(bo, _)], Bo, Br]) (by repeat (first | exact PermM.nil | refine PermM.cons (by repeat (first | exact Ins.here | apply Ins.there)) ?_))) (.row (mem_cat (s := [(b70, _)]) (by repeat (first | exact List.Mem.head _ | apply List.Mem.tail)) (List.Mem.head _)) (SegL.seg (m := 1) (by repeat (first | exact SegL.done | apply SegL.take | apply SegL.skip))).1 rfl) (fun _ => rfl) encI_one (by simp only [List.length_singleton]; omega) rfl rfl rfl rfl) ?_
              rintro nv2 _ ⟨Bn2, hn2, rfl⟩
              obtain ⟨pn2, cn2, rfl, hq2⟩ := id (hn2.rd (fun _ => rfl) (by decide))
              refine ⟨(cat_sub (ls' := [[(b5, _)], [(bs, _)]]) (ls := [Bn2, [(b70, _)], [(b78, _)], [(b5, _)], Bs, [(bs, _)], Bx, [(bo, _)], Bo, Br]) (by repeat (first | exact SubM.nil | refine SubM.cons (by repeat (first | exact Ins.here | apply Ins.there)) ?_))), ?_⟩
              refine dg_g rfl rfl (.inl rfl) rfl rfl (by exact ev_appendL (ys := [s.edge]) (T := 38) (T2 := 38) (.cons rfl (.cons rfl .nil)) rfl rfl hxv (R := cat [Bn2, [(b70, _)], [(b78, _)], [(b5, _)], Bs, [(bs, _)], [(bo, _)], Bo, Br] F) (cat_perm (ls' := [Bx, Bn2, [(b70, _)], [(b78, _)], [(b5, _)], Bs, [(bs, _)], [(bo, _)], Bo, Br]) (ls := [Bn2, [(b70, _)], [(b78, _)], [(b5, _)], Bs, [(bs, _)], Bx, [(bo, _)], Bo, Br]) (by repeat (first | exact PermM.nil | refine PermM.cons (by repeat (first | exact Ins.here | apply Ins.there)) ?_))) (.row (mem_cat (s := [(b78, _)]) (by repeat (first | exact List.Mem.head _ | apply List.Mem.tail)) (List.Mem.head _)) (SegL.seg (m := 1) (by repeat (first | exact SegL.done | apply SegL.take | apply SegL.skip))).1 rfl) (fun _ => rfl) encI_one (by simp only [List.length_singleton]; omega) rfl rfl rfl rfl) ?_
              rintro xv2 _ ⟨Bx2, hx2, rfl⟩
              obtain ⟨px2, cx2, rfl, hq3⟩ := id (hx2.rd (fun _ => rfl) (by decide))
              refine dg_w rfl rfl (.inl rfl) rfl rfl (by exact qw_nilCheck rfl) ?_
              refine dg_w rfl rfl (.inl rfl) rfl rfl (by exact qw_fieldAddr rfl) ?_
              refine dg_g0 rfl rfl (.inl rfl) rfl (by exact ev_store rfl rfl (by first | exact CellsOf.agg | exact CellsOf.one rfl) (by repeat (first | exact List.Mem.head _ | apply List.Mem.tail | apply List.mem_append_right | assumption)) (by repeat (first | exact SetSeg.done | apply SetSeg.take | apply SetSeg.skip)) rfl rfl (by repeat (first | exact Upd.here | apply Upd.there | apply Upd.app)) (by first | exact Or.inl ⟨inferInstance, rfl⟩ | exact Or.inr inferInstance)) ?_
              rintro _ _ ⟨rfl, rfl⟩
              refine dg_w rfl rfl (.inl rfl) rfl rfl (by exact qw_nilCheck rfl) ?_
              refine dg_w rfl rfl (.inl rfl) rfl rfl (by exact qw_fieldAddr rfl) ?_
              refine dg_g0 rfl rfl (.inl rfl) rfl (by exact ev_store rfl rfl (by first | exact CellsOf.agg | exact CellsOf.one rfl) (by repeat (first | exact List.Mem.head _ | apply List.Mem.tail | apply List.mem_append_right | assumption)) (by repeat (first | exact SetSeg.done | apply SetSeg.take | apply SetSeg.skip)) rfl rfl (by repeat (first | exact Upd.here | apply Upd.there | apply Upd.app)) (by first | exact Or.inl ⟨inferInstance, rfl⟩ | exact Or.inr inferInstance)) ?_
              rintro _ _ ⟨rfl, rfl⟩
              refine dg_nil ?_
              first
                | exact qg_cut_sp _ _ ⟨_, _, Bn2, Bx2, hn2, hx2, rfl, rfl⟩ (by repeat (first | exact Sub.nil | refine Sub.cons rfl ?_ | refine Sub.cons (congrArg (fun z => some (Value.int IntKind.i64 z)) (by omega)) ?_)) (cat_sub (ls' := [Bs, [(bs, _)], Bn2, Bx2, [(bo, _)], Bo, Br]) (ls := [Bx2, [(b78, _)], Bn2, [(b70, _)], [(b5, _)], Bs, [(bs, _)], [(bo, _)], Bo, Br]) (by repeat (first | exact SubM.nil | refine SubM.cons (by repeat (first | exact Ins.here | apply Ins.there)) ?_)))
                | exact qg_cut_sp _ _ ⟨_, _, Bn2, Bx2, hn2, hx2, rfl, rfl⟩ (by repeat (first | exact Sub.nil | refine Sub.cons rfl ?_ | refine Sub.cons (congrArg (fun z => some (Value.int IntKind.i64 z)) (by omega)) ?_)) (cat_sub (ls' := [Bs, [(bs, _)], Bn2, Bx2, [(bo, _)], Bo, Br]) (ls := [Bx2, Bn2, [(b78, _)], [(b70, _)], [(b5, _)], Bs, [(bs, _)], [(bo, _)], Bo, Br]) (by repeat (first | exact SubM.nil | refine SubM.cons (by repeat (first | exact Ins.here | apply Ins.there)) ?_)))
                | exact qg_cut_sp _ _ ⟨_, _, Bn2, Bx2, hn2, hx2, rfl, rfl⟩ (by repeat (first | exact Sub.nil | refine Sub.cons rfl ?_ | refine Sub.cons (congrArg (fun z => some (Value.int IntKind.i64 z)) (by omega)) ?_)) (cat_sub (ls' := [Bs, [(bs, _)], Bn2, Bx2, [(bo, _)], Bo, Br]) (ls := [Bx2, Bn2, [(b70, _)], [(b78, _)], [(b5, _)], Bs, [(bs, _)], [(bo, _)], Bo, Br]) (by repeat (first | exact SubM.nil | refine SubM.cons (by repeat (first | exact Ins.here | apply Ins.there)) ?_)))
          · rintro _ _ ⟨nv, xv, Bn, Bx, hnv, hxv, rfl, rfl⟩
            refine cg_seq ?_
            refine cg_region ?_
            refine rg_q (.inl rfl) rfl rfl (by exact QW.qr (qw_move rfl)) ?_
            refine rg_e (.inl rfl) rfl rfl (by exact ev_call0 rfl (.cons rfl (.nil)) ((ih (Bs ++ F) (he.mono (fun q hq => List.mem_append_right _ hq)) (List.mem_append_right _ hbw) (List.mem_append_right _ hba) (nodes ++ [s.to]) (edges ++ [s.edge]) rk nv xv ov ts Bn Bx Bo Br (hway.snoc hsm) (by rw [List.length_append, List.length_singleton]; omega) hrl hnv hxv hov hrs).pre (fun w h => h.perm (cat_perm (ls' := [[(bs, _)], Bn, Bx, [(bo, _)], Bo, Br, Bs]) (ls := [Bs, [(bs, _)], Bn, Bx, [(bo, _)], Bo, Br]) (by repeat (first | exact PermM.nil | refine PermM.cons (by repeat (first | exact Ins.here | apply Ins.there)) ?_)))))) ?_
            rintro _ _ ⟨nv1, xv1, ov1, ts1, Bn1, Bx1, Bo1, Br1, rfl, rfl, hn1, hx1, ho1, hr1⟩
            have hfew := seekF_few es n to a d' (nodes ++ [s.to]) (edges ++ [s.edge]) rk hrl
            obtain ⟨res, hres⟩ : ∃ r, r = seekF es n to a d' (nodes ++ [s.to]) (edges ++ [s.edge]) rk := ⟨_, rfl⟩
            rw [← hres] at hr1 hfew ⊢
            obtain ⟨pn1, cn1, rfl, hln1, hcn1, hsn1, hRn1⟩ := id (hn1.rd (fun _ => rfl) (by decide))
            obtain ⟨px1, cx1, rfl, hlx1, hcx1, hsx1, hRx1⟩ := id (hx1.rd (fun _ => rfl) (by decide))
            have hl1 : (nodes ++ [s.to]).length = nodes.length + 1 := by simp
            have hl2 : (edges ++ [s.edge]).length = edges.length + 1 := by simp
            have htr1 := OwnL.trunc (enc := encI) (fun _ => rfl) hn1 hl1
            have htr2 := OwnL.trunc (enc := encI) (fun _ => rfl) hx1 hl2
            have htn : (((nodes ++ [s.to]).length : Int) - 1).toNat = nodes.length := by omega
            have htx : (((edges ++ [s.edge]).length : Int) - 1).toNat = edges.length := by omega
            unfold SK VB
            generalize hb2 : res.2 = bb
            cases bb
            · skip
              have hsk2 := hsk.trans hloop
              rw [if_neg (of_decide_eq_false hin), ← hres, hb2, if_neg (by decide)] at hsk2
              refine rg_q (.inl rfl) rfl rfl (by exact QW.qr (qw_assign rfl)) ?_
              refine rg_nil ?_
              refine qg_then ?_
              refine cg_seq ?_
              refine cg_draw follows (.op 0 false (.op 1 false (.op 2 false (.op 3 false (.op 4 false (.op 5 false (.op 6 false (.op 7 false (.op 8 false (.op 9 false (.op 10 false (.op 11 false (.op 12 false (.op 13 false (.op 14 false (.op 15 false (.op 16 false (.op 17 false (.op 18 false (.op 19 false (.op 20 false (.op 21 false (.op 22 false (.op 23 false (.op 24 false (.op 25 false (.op 26 false (.op 27 false (.op 28 false (.op 29 false .done)))))))))))))))))))))))))))))) _ (by kernel_rfl) (SubP.of (List.Sublist.refl _)) ?_
              refine dg_w rfl rfl (.inl rfl) rfl rfl (by exact qw_move rfl) ?_
              refine dg_w rfl rfl (.inl rfl) rfl rfl (by exact qw_move rfl) ?_
              refine dg_w rfl rfl (.inl rfl) rfl rfl (by exact qw_move rfl) ?_
              refine dg_w rfl rfl (.inl rfl) rfl rfl (by exact qw_nilCheck rfl) ?_
              refine dg_w rfl rfl (.inl rfl) rfl rfl (by exact qw_fieldAddr rfl) ?_
              refine dg_r rfl rfl rfl (.inl rfl) rfl rfl (by exact qr_load1 rfl (by repeat (first | exact List.Mem.head _ | apply List.Mem.tail | apply List.mem_append_right | assumption)) rfl) ?_
              refine dg_w rfl rfl (.inl rfl) rfl rfl (by exact qw_move rfl) ?_
              refine dg_w rfl rfl (.inl rfl) rfl rfl (by exact qw_nilCheck rfl) ?_
              refine dg_w rfl rfl (.inl rfl) rfl rfl (by exact qw_fieldAddr rfl) ?_
              refine dg_r rfl rfl rfl (.inl rfl) rfl rfl (by exact qr_load1 rfl (by repeat (first | exact List.Mem.head _ | apply List.Mem.tail | apply List.mem_append_right | assumption)) rfl) ?_
              refine dg_w rfl rfl (.inl rfl) rfl rfl (by exact qw_len_slice (t := 38) (.cons rfl (.nil)) rfl) ?_
              refine dg_w rfl rfl (.inl rfl) rfl rfl (by exact qw_sub_in rfl rfl (by unfold inK; omega)) ?_
              refine dg_w rfl rfl (.inl rfl) rfl rfl (by exact qw_slice_hi hsn1.1 rfl rfl (by omega) (by omega)) ?_
              refine dg_w rfl rfl (.inl rfl) rfl rfl (by exact qw_move rfl) ?_
              refine dg_w rfl rfl (.inl rfl) rfl rfl (by exact qw_nilCheck rfl) ?_
              refine dg_w rfl rfl (.inl rfl) rfl rfl (by exact qw_fieldAddr rfl) ?_
              refine dg_r rfl rfl rfl (.inl rfl) rfl rfl (by exact qr_load1 rfl (by repeat (first | exact List.Mem.head _ | apply List.Mem.tail | apply List.mem_append_right | assumption)) rfl) ?_
              refine dg_w rfl rfl (.inl rfl) rfl rfl (by exact qw_move rfl) ?_
              refine dg_w rfl rfl (.inl rfl) rfl rfl (by exact qw_nilCheck rfl) ?_
              refine dg_w rfl rfl (.inl rfl) rfl rfl (by exact qw_fieldAddr rfl) ?_
              refine dg_r rfl rfl rfl (.inl rfl) rfl rfl (by exact qr_load1 rfl (by repeat (first | exact List.Mem.head _ | apply List.Mem.tail | apply List.mem_append_right | assumption)) rfl) ?_
              refine dg_w rfl rfl (.inl rfl) rfl rfl (by exact qw_len_slice (t := 38) (.cons rfl (.nil)) rfl) ?_
              refine dg_w rfl rfl (.inl rfl) rfl rfl (by exact qw_sub_in rfl rfl (by unfold inK; omega)) ?_
              refine dg_w rfl rfl (.inl rfl) rfl rfl (by exact qw_slice_hi hsx1.1 rfl rfl (by omega) (by omega)) ?_
              refine dg_w rfl rfl (.inl rfl) rfl rfl (by exact qw_nilCheck rfl) ?_
              refine dg_w rfl rfl (.inl rfl) rfl rfl (by exact qw_fieldAddr rfl) ?_
              refine dg_g0 rfl rfl (.inl rfl) rfl (by exact ev_store rfl rfl (by first | exact CellsOf.agg | exact CellsOf.one rfl) (by repeat (first | exact List.Mem.head _ | apply List.Mem.tail | apply List.mem_append_right | assumption)) (by repeat (first | exact SetSeg.done | apply SetSeg.take | apply SetSeg.skip)) rfl rfl (by repeat (first | exact Upd.here | apply Upd.there | apply Upd.app)) (by first | exact Or.inl ⟨inferInstance, rfl⟩ | exact Or.inr inferInstance)) ?_
              rintro _ _ ⟨rfl, rfl⟩
              refine dg_w rfl rfl (.inl rfl) rfl rfl (by exact qw_nilCheck rfl) ?_
              refine dg_w rfl rfl (.inl rfl) rfl rfl (by exact qw_fieldAddr rfl) ?_
              refine dg_g0 rfl rfl (.inl rfl) rfl (by exact ev_store rfl rfl (by first | exact CellsOf.agg | exact CellsOf.one rfl) (by repeat (first | exact List.Mem.head _ | apply List.Mem.tail | apply List.mem_append_right | assumption)) (by repeat (first | exact SetSeg.done | apply SetSeg.take | apply SetSeg.skip)) rfl rfl (by repeat (first | exact Upd.here | apply Upd.there | apply Upd.app)) (by first | exact Or.inl ⟨inferInstance, rfl⟩ | exact Or.inr inferInstance)) ?_
              rintro _ _ ⟨rfl, rfl⟩
              refine dg_nil ?_
              rw [htn, htx]
              refine qg_then ?_
              refine cg_seq ?_
              refine cg_region ?_
              refine rg_q (.inl rfl) rfl rfl (by exact QW.qr (qw_move rfl)) ?_
              refine rg_q (.inl rfl) rfl rfl (by exact QW.qr (qw_not rfl)) ?_
              refine rg_nil ?_
              refine qg_then ?_
              refine cg_true rfl ?_
              refine cg_seq ?_
              refine cg_region ?_
              refine rg_q (.inl rfl) rfl rfl (by exact QW.qr (qw_assign rfl)) ?_
              refine rg_nil ?_
              refine qg_then ?_
              refine cg_ret ?_
              refine qg_block_ret ?_
              refine qg_then_ret ?_
              refine qg_then_ret ?_
              refine qg_block_ret ?_
              refine qg_then_ret ?_
              exact qg_end_sp (.inl rfl) _ (.cons (.tmp rfl) (.nil)) _ (cat_sub (ls' := [[(bs, _)], Bn1, Bx1, [(bo, _)], Bo1, Br1]) (ls := [[(bs, _)], Bn1, Bx1, [(bo, _)], Bo1, Br1, Bs]) (by repeat (first | exact SubM.nil | refine SubM.cons (by repeat (first | exact Ins.here | apply Ins.there)) ?_))) ⟨_, _, ov1, ts1, Bn1, Bx1, Bo1, Br1, by rw [hsk2]; rfl, rfl, htr1, htr2, ho1, by rw [hsk2]; exact hr1⟩
            · skip
              refine rg_q (.inl rfl) rfl rfl (by exact QW.qr (qw_assign rfl)) ?_
              refine rg_nil ?_
              refine qg_then ?_
              refine cg_seq ?_
              refine cg_draw follows (.op 0 false (.op 1 false (.op 2 false (.op 3 false (.op 4 false (.op 5 false (.op 6 false (.op 7 false (.op 8 false (.op 9 false (.op 10 false (.op 11 false (.op 12 false (.op 13 false (.op 14 false (.op 15 false (.op 16 false (.op 17 false (.op 18 false (.op 19 false (.op 20 false (.op 21 false (.op 22 false (.op 23 false (.op 24 false (.op 25 false (.op 26 false (.op 27 false (.op 28 false (.op 29 false .done)))))))))))))))))))))))))))))) _ (by kernel_rfl) (SubP.of (List.Sublist.refl _)) ?_
              refine dg_w rfl rfl (.inl rfl) rfl rfl (by exact qw_move rfl) ?_
              refine dg_w rfl rfl (.inl rfl) rfl rfl (by exact qw_move rfl) ?_
              refine dg_w rfl rfl (.inl rfl) rfl rfl (by exact qw_move rfl) ?_
              refine dg_w rfl rfl (.inl rfl) rfl rfl (by exact qw_nilCheck rfl) ?_
              refine dg_w rfl rfl (.inl rfl) rfl rfl (by exact qw_fieldAddr rfl) ?_
              refine dg_r rfl rfl rfl (.inl rfl) rfl rfl (by exact qr_load1 rfl (by repeat (first | exact List.Mem.head _ | apply List.Mem.tail | apply List.mem_append_right | assumption)) rfl) ?_
              refine dg_w rfl rfl (.inl rfl) rfl rfl (by exact qw_move rfl) ?_
              refine dg_w rfl rfl (.inl rfl) rfl rfl (by exact qw_nilCheck rfl) ?_
              refine dg_w rfl rfl (.inl rfl) rfl rfl (by exact qw_fieldAddr rfl) ?_
              refine dg_r rfl rfl rfl (.inl rfl) rfl rfl (by exact qr_load1 rfl (by repeat (first | exact List.Mem.head _ | apply List.Mem.tail | apply List.mem_append_right | assumption)) rfl) ?_
              refine dg_w rfl rfl (.inl rfl) rfl rfl (by exact qw_len_slice (t := 38) (.cons rfl (.nil)) rfl) ?_
              refine dg_w rfl rfl (.inl rfl) rfl rfl (by exact qw_sub_in rfl rfl (by unfold inK; omega)) ?_
              refine dg_w rfl rfl (.inl rfl) rfl rfl (by exact qw_slice_hi hsn1.1 rfl rfl (by omega) (by omega)) ?_
              refine dg_w rfl rfl (.inl rfl) rfl rfl (by exact qw_move rfl) ?_
              refine dg_w rfl rfl (.inl rfl) rfl rfl (by exact qw_nilCheck rfl) ?_
              refine dg_w rfl rfl (.inl rfl) rfl rfl (by exact qw_fieldAddr rfl) ?_
              refine dg_r rfl rfl rfl (.inl rfl) rfl rfl (by exact qr_load1 rfl (by repeat (first | exact List.Mem.head _ | apply List.Mem.tail | apply List.mem_append_right | assumption)) rfl) ?_
              refine dg_w rfl rfl (.inl rfl) rfl rfl (by exact qw_move rfl) ?_
              refine dg_w rfl rfl (.inl rfl) rfl rfl (by exact qw_nilCheck rfl) ?_
              refine dg_w rfl rfl (.inl rfl) rfl rfl (by exact qw_fieldAddr rfl) ?_
              refine dg_r rfl rfl rfl (.inl rfl) rfl rfl (by exact qr_load1 rfl (by repeat (first | exact List.Mem.head _ | apply List.Mem.tail | apply List.mem_append_right | assumption)) rfl) ?_
              refine dg_w rfl rfl (.inl rfl) rfl rfl (by exact qw_len_slice (t := 38) (.cons rfl (.nil)) rfl) ?_
              refine dg_w rfl rfl (.inl rfl) rfl rfl (by exact qw_sub_in rfl rfl (by unfold inK; omega)) ?_
              refine dg_w rfl rfl (.inl rfl) rfl rfl (by exact qw_slice_hi hsx1.1 rfl rfl (by omega) (by omega)) ?_
              refine dg_w rfl rfl (.inl rfl) rfl rfl (by exact qw_nilCheck rfl) ?_
              refine dg_w rfl rfl (.inl rfl) rfl rfl (by exact qw_fieldAddr rfl) ?_
              refine dg_g0 rfl rfl (.inl rfl) rfl (by exact ev_store rfl rfl (by first | exact CellsOf.agg | exact CellsOf.one rfl) (by repeat (first | exact List.Mem.head _ | apply List.Mem.tail | apply List.mem_append_right | assumption)) (by repeat (first | exact SetSeg.done | apply SetSeg.take | apply SetSeg.skip)) rfl rfl (by repeat (first | exact Upd.here | apply Upd.there | apply Upd.app)) (by first | exact Or.inl ⟨inferInstance, rfl⟩ | exact Or.inr inferInstance)) ?_
              rintro _ _ ⟨rfl, rfl⟩
              refine dg_w rfl rfl (.inl rfl) rfl rfl (by exact qw_nilCheck rfl) ?_
              refine dg_w rfl rfl (.inl rfl) rfl rfl (by exact qw_fieldAddr rfl) ?_
              refine dg_g0 rfl rfl (.inl rfl) rfl (by exact ev_store rfl rfl (by first | exact CellsOf.agg | exact CellsOf.one rfl) (by repeat (first | exact List.Mem.head _ | apply List.Mem.tail | apply List.mem_append_right | assumption)) (by repeat (first | exact SetSeg.done | apply SetSeg.take | apply SetSeg.skip)) rfl rfl (by repeat (first | exact Upd.here | apply Upd.there | apply Upd.app)) (by first | exact Or.inl ⟨inferInstance, rfl⟩ | exact Or.inr inferInstance)) ?_
              rintro _ _ ⟨rfl, rfl⟩
              refine dg_nil ?_
              rw [htn, htx]
              refine qg_then ?_
              refine cg_seq ?_
              refine cg_region ?_
              refine rg_q (.inl rfl) rfl rfl (by exact QW.qr (qw_move rfl)) ?_
              refine rg_q (.inl rfl) rfl rfl (by exact QW.qr (qw_not rfl)) ?_
              refine rg_nil ?_
              refine qg_then ?_
              refine cg_false rfl ?_
              refine cg_skip ?_
              refine qg_block ?_
              refine qg_then ?_
              refine cg_region ?_
              refine rg_q (.inl rfl) rfl rfl (by exact QW.qr (qw_add_in rfl rfl (by unfold inK; omega))) ?_
              refine rg_q (.inl rfl) rfl rfl (by exact QW.qr (qw_move rfl)) ?_
              refine rg_nil ?_
              exact qg_round_sp _ _ _ ⟨k + 1, res.1, _, _, ov1, ts1, Bn1, Bx1, Bo1, Br1, by omega, hfew.2 hb2, by rw [hloop, if_neg (of_decide_eq_false hin), ← hres, if_pos hb2], htr1, htr2, ho1, hr1, rfl, rfl, rfl⟩ (by repeat (first | exact Sub.nil | refine Sub.cons rfl ?_ | refine Sub.cons (congrArg (fun z => some (Value.int IntKind.i64 z)) (by omega)) ?_)) (cat_sub (ls' := [Bs, [(bs, _)], Bn1, Bx1, [(bo, _)], Bo1, Br1]) (ls := [[(bs, _)], Bn1, Bx1, [(bo, _)], Bo1, Br1, Bs]) (by repeat (first | exact SubM.nil | refine SubM.cons (by repeat (first | exact Ins.here | apply Ins.there)) ?_))) (by omega)
        · skip
          refine dg_nil ?_
          refine qg_then ?_
          refine cg_true rfl ?_
          refine cg_exit ?_
          refine qg_then_exit ?_
          refine qg_block_here ?_
          refine qg_then ?_
          refine cg_region ?_
          refine rg_q (.inl rfl) rfl rfl (by exact QW.qr (qw_add_in rfl rfl (by unfold inK; omega))) ?_
          refine rg_q (.inl rfl) rfl rfl (by exact QW.qr (qw_move rfl)) ?_
          refine rg_nil ?_
          exact qg_round_sp _ _ _ ⟨k + 1, rk, _, _, ov, ts, Bn, Bx, Bo, Br, by omega, hrl, by rw [hloop, if_pos (of_decide_eq_true hin)], hnv, hxv, hov, hrs, rfl, rfl, rfl⟩ (by repeat (first | exact Sub.nil | refine Sub.cons rfl ?_ | refine Sub.cons (congrArg (fun z => some (Value.int IntKind.i64 z)) (by omega)) ?_)) (cat_sub (ls' := [Bs, [(bs, _)], Bn, Bx, [(bo, _)], Bo, Br]) (ls := [[(b5, _)], Bs, [(bs, _)], Bn, Bx, [(bo, _)], Bo, Br]) (by repeat (first | exact SubM.nil | refine SubM.cons (by repeat (first | exact Ins.here | apply Ins.there)) ?_))) (by omega)
      · intro hlt
        obtain rfl : k = (stepsF n es (lastN nodes)).length := by omega
        rw [List.drop_length, loopS] at hloop
        have hsk2 := hsk.trans hloop
        refine rg_nil ?_
        refine qg_then ?_
        refine cg_seq ?_
        refine cg_false rfl ?_
        refine cg_exit ?_
        refine qg_then_exit ?_
        refine qg_then_exit ?_
        refine qg_block_here ?_
        refine qg_then ?_
        refine cg_seq ?_
        refine cg_region ?_
        refine rg_q (.inl rfl) rfl rfl (by exact QW.qr (qw_assign rfl)) ?_
        refine rg_nil ?_
        refine qg_then ?_
        refine cg_ret ?_
        exact qg_end_sp (.inl rfl) _ (.cons (.tmp rfl) (.nil)) _ (cat_sub (ls' := [[(bs, _)], Bn, Bx, [(bo, _)], Bo, Br]) (ls := [Bs, [(bs, _)], Bn, Bx, [(bo, _)], Bo, Br]) (by repeat (first | exact SubM.nil | refine SubM.cons (by repeat (first | exact Ins.here | apply Ins.there)) ?_))) ⟨_, _, ov, ts, Bn, Bx, Bo, Br, by rw [hsk2]; rfl, rfl, hnv, hxv, hov, by rw [hsk2]; exact hrs⟩

end Go.Proofs.Ytjimpciiaceleaa