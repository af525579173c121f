/-
  THE WALKS of path's Fees, better and Best: they answer what the list of routes says. Conditions: sizes; no route of All is empty.
-/
import Derived.Test.YtjimpciiaceleaaA12
namespace Go.Proofs.Ytjimpciiaceleaa
open Fw
set_option linter.unusedVariables false
set_option maxRecDepth 100000

def lastOf (am : List Int) : Int := (am[am.length - 1]?).getD 0
def firstOf (am : List Int) : Int := (am[0]?).getD 0
def feesS (am : List Int) : Int := if am.length = 0 then 0 else IntKind.wrap .u64 (firstOf am - lastOf am)
def betterF (a b : RouteP) : Bool := decide (firstOf a.amounts < firstOf b.amounts) || (decide (firstOf a.amounts = firstOf b.amounts) && decide ((a.edges.length : Int) < b.edges.length))
def bestOf : List RouteP → RouteP → RouteP
  | [], b => b
  | r :: rs, b => bestOf rs (if betterF r b = true then r else b)
theorem bestOf_drop {rs : List RouteP} {k : Nat} (hk : k < rs.length) (b : RouteP) : bestOf (rs.drop k) b = bestOf (rs.drop (k + 1)) (if betterF rs[k] b = true then rs[k] else b) := by
  rw [List.drop_eq_getElem_cons hk, bestOf]
theorem firstOf_get {am : List Int} (h : 0 < am.length) : am[0]? = some (firstOf am) := by
  unfold firstOf; rw [List.getElem?_eq_getElem h]; rfl
theorem lastOf_get {am : List Int} (h : 0 < am.length) : am[am.length - 1]? = some (lastOf am) := by
  unfold lastOf; rw [List.getElem?_eq_getElem (by omega)]; rfl
theorem seg_u {A : Array Value} {o i j : Nat} {xs : List Int} {x : Int} (h : Seg A o (xs.flatMap encU)) (hx : xs[i]? = some x) (hj : j = o + i) : A[j]? = some (U x) := by
  subst hj
  exact h.get (i := i) (v := U x) (by rw [show encU = fun x => [U x] from rfl, flat_one, List.getElem?_map, hx]; rfl)
theorem seg_i {A : Array Value} {o i j : Nat} {xs : List Int} {x : Int} (h : Seg A o (xs.flatMap encI)) (hx : xs[i]? = some x) (hj : j = o + i) : A[j]? = some (I x) := by
  subst hj
  exact h.get (i := i) (v := I x) (by rw [show encI = fun x => [I x] from rfl, flat_one, List.getElem?_map, hx]; rfl)

theorem fees_ca (am : List Int) (nv xv cv : Value) (hn : nv.oneCell' = true) (hx : xv.oneCell' = true) (O : Out) (L : List Blk) (hc : RdL L encU 1 cv am) (hsz : am.length < 1000000) :
    CA Try.prog 11 [.agg #[nv, xv, cv]] O L fun v L' => v = U (feesS am) ∧ L' = L := by
  obtain ⟨pa, ca, rfl, hla, hcapa, hspa, hRa⟩ := id hc
  refine ca_enter Try.func11 rfl rfl ?_
  rw [Try.ntmps11]
  simp only [envOf]
  refine cg_seq ?_
  refine cg_region ?_
  refine rg_e (.inl rfl) rfl rfl (by exact ev_box rfl (by first | exact CellsOf.agg | exact CellsOf.one rfl)) ?_
  rintro _ _ ⟨b1, rfl, rfl⟩
  refine rg_q (.inl rfl) rfl rfl (by exact QW.qr (qw_assign rfl)) ?_
  refine rg_nil ?_
  refine qg_then ?_
  refine cg_seq ?_
  refine cg_seq ?_
  refine cg_region ?_
  refine rg_q (.inl rfl) rfl rfl (by exact QW.qr (qw_fieldAddr rfl)) ?_
  refine rg_q (.inl rfl) rfl rfl (by exact qr_load1 rfl (by repeat (first | exact List.Mem.head _ | apply List.Mem.tail | apply List.mem_append_right | assumption)) rfl) ?_
  refine rg_q (.inl rfl) rfl rfl (by exact QW.qr (qw_len_slice (t := 39) (.cons rfl (.nil)) rfl)) ?_
  refine rg_split (.inl rfl) rfl rfl (by exact qc_eql rfl rfl) ?_ ?_
  · intro h0
    refine rg_nil ?_
    refine qg_then ?_
    refine cg_true rfl ?_
    refine cg_seq ?_
    refine cg_region ?_
    refine rg_q (.inl rfl) rfl rfl (by exact QW.qr (qw_assign rfl)) ?_
    refine rg_nil ?_
    refine qg_then ?_
    refine cg_ret ?_
    refine qg_then_ret ?_
    have hfin : feesS am = 0 := by rw [feesS, if_pos (by omega)]
    exact qg_end (.inl rfl) _ (.cons (.tmp rfl) (.nil)) L (by repeat (first | exact List.Sublist.refl _ | exact List.nil_sublist _ | exact List.sublist_append_right _ _ | apply List.Sublist.cons_cons | apply List.Sublist.cons)) ⟨by rw [hfin]; rfl, rfl⟩
  · intro h0
    obtain ⟨ba, oa, Aa, ta, fza, rfl, hma, hsega⟩ := hRa (by omega)
    have hpos : 0 < am.length := by omega
    have hga : Aa[oa + (0 : Int).toNat * 1]? = some (U (firstOf am)) := seg_u hsega (firstOf_get hpos) (by simp)
    have hgb : Aa[oa + ((am.length : Int) - 1).toNat * 1]? = some (U (lastOf am)) := seg_u hsega (lastOf_get hpos) (by omega)
    refine rg_nil ?_
    refine qg_then ?_
    refine cg_false rfl ?_
    refine cg_skip ?_
    refine qg_then ?_
    refine cg_seq ?_
    refine cg_draw follows (.op 0 false (.op 1 false (.op 2 false (.op 3 false (.op 4 false (.op 5 false (.op 6 false (.op 7 false (.op 8 false (.op 9 false (.op 10 false (.op 11 false (.op 12 false (.op 13 false .done)))))))))))))) _ (by kernel_rfl) (SubP.of (List.Sublist.refl _)) ?_
    refine dg_w rfl rfl (.inl rfl) rfl rfl (by exact qw_fieldAddr rfl) ?_
    refine dg_r rfl rfl rfl (.inl rfl) rfl rfl (by exact qr_load1 rfl (by repeat (first | exact List.Mem.head _ | apply List.Mem.tail | apply List.mem_append_right | assumption)) rfl) ?_
    refine dg_w rfl rfl (.inl rfl) rfl rfl (by exact qw_indexAddr rfl rfl (by omega) (by omega)) ?_
    refine dg_r rfl rfl rfl (.inl rfl) rfl rfl (by exact qr_load1' rfl (List.mem_cons_of_mem _ hma) hga) ?_
    refine dg_w rfl rfl (.inl rfl) rfl rfl (by exact qw_fieldAddr rfl) ?_
    refine dg_r rfl rfl rfl (.inl rfl) rfl rfl (by exact qr_load1 rfl (by repeat (first | exact List.Mem.head _ | apply List.Mem.tail | apply List.mem_append_right | assumption)) rfl) ?_
    refine dg_w rfl rfl (.inl rfl) rfl rfl (by exact qw_fieldAddr rfl) ?_
    refine dg_r rfl rfl rfl (.inl rfl) rfl rfl (by exact qr_load1 rfl (by repeat (first | exact List.Mem.head _ | apply List.Mem.tail | apply List.mem_append_right | assumption)) rfl) ?_
    refine dg_w rfl rfl (.inl rfl) rfl rfl (by exact qw_len_slice (t := 39) (.cons rfl (.nil)) rfl) ?_
    refine dg_w rfl rfl (.inl rfl) rfl rfl (by exact qw_sub_in rfl rfl (by unfold inK; omega)) ?_
    refine dg_w rfl rfl (.inl rfl) rfl rfl (by exact qw_indexAddr rfl rfl (by omega) (by omega)) ?_
    refine dg_r rfl rfl rfl (.inl rfl) rfl rfl (by exact qr_load1' rfl (List.mem_cons_of_mem _ hma) hgb) ?_
    refine dg_w rfl rfl (.inl rfl) rfl rfl (by exact qw_sub rfl rfl) ?_
    refine dg_w rfl rfl (.inl rfl) rfl rfl (by exact qw_assign rfl) ?_
    refine dg_nil ?_
    refine qg_then ?_
    refine cg_ret ?_
    have hfin : feesS am = IntKind.wrap .u64 (firstOf am - lastOf am) := by rw [feesS, if_neg (by omega)]
    exact qg_end (.inl rfl) _ (.cons (.tmp rfl) (.nil)) L (by repeat (first | exact List.Sublist.refl _ | exact List.nil_sublist _ | exact List.sublist_append_right _ _ | apply List.Sublist.cons_cons | apply List.Sublist.cons)) ⟨by rw [hfin]; rfl, rfl⟩

theorem better_ca (a b : RouteP) (ta tb : RV) (O : Out) (L : List Blk) (ha : RtAt L ta a) (hb : RtAt L tb b) (hna : 0 < a.amounts.length) (hnb : 0 < b.amounts.length) :
    CA Try.prog 24 [.agg (encRV ta).toArray, .agg (encRV tb).toArray] O L fun v L' => v = .bool (betterF a b) ∧ L' = L := by
  obtain ⟨ta1, tl1, tc1, ta2, tl2, tc2, ta3, tl3, tc3⟩ := ta
  obtain ⟨tb1, ul1, uc1, tb2, ul2, uc2, tb3, ul3, uc3⟩ := tb
  obtain ⟨ha1, ha2, ha3⟩ := id ha
  obtain ⟨hb1, hb2, hb3⟩ := id hb
  obtain ⟨pa, ca, hea, hla, hcapa, hspa, hRa⟩ := id ha3
  obtain ⟨pb, cb, heb, hlb, hcapb, hspb, hRb⟩ := id hb3
  obtain ⟨pa2, ca2, hea2, _⟩ := id ha2
  obtain ⟨pb2, cb2, heb2, _⟩ := id hb2
  obtain ⟨ba, oa, Aa, ya, fza, rfl, hma, hsega⟩ := hRa (by omega)
  obtain ⟨bb, ob, Ab, yb, fzb, rfl, hmb, hsegb⟩ := hRb (by omega)
  cases hea
  cases heb
  cases hea2
  cases heb2
  have hga : Aa[oa + (0 : Int).toNat * 1]? = some (U (firstOf a.amounts)) := seg_u hsega (firstOf_get hna) (by simp)
  have hgb : Ab[ob + (0 : Int).toNat * 1]? = some (U (firstOf b.amounts)) := seg_u hsegb (firstOf_get hnb) (by simp)
  unfold encRV
  refine ca_enter Try.func24 rfl rfl ?_
  rw [Try.ntmps24]
  simp only [envOf]
  refine cg_seq ?_
  refine cg_region ?_
  refine rg_e (.inl rfl) rfl rfl (by exact ev_box rfl (by first | exact CellsOf.agg | exact CellsOf.one rfl)) ?_
  rintro _ _ ⟨b2, rfl, rfl⟩
  refine rg_e (.inl rfl) rfl rfl (by exact ev_box rfl (by first | exact CellsOf.agg | exact CellsOf.one rfl)) ?_
  rintro _ _ ⟨b3, rfl, rfl⟩
  refine rg_q (.inl rfl) rfl rfl (by exact QW.qr (qw_assign rfl)) ?_
  refine rg_nil ?_
  refine qg_then ?_
  refine cg_seq ?_
  refine cg_draw follows (.op 0 false (.op 1 false (.op 2 false (.op 3 false (.op 4 false (.op 5 false (.op 6 false (.op 7 false (.op 8 false (.op 9 false (.op 10 false (.op 11 false (.op 12 false (.op 13 false (.op 14 false (.op 15 false (.op 16 false (.op 17 false (.op 18 false (.op 19 false (.op 20 false (.op 22 false (.op 21 true (.op 23 true (.op 24 false (.op 25 false (.op 26 false (.op 27 false .done)))))))))))))))))))))))))))) _ (by kernel_rfl) (SubP.of (List.Sublist.refl _)) ?_
  refine dg_w rfl rfl (.inl rfl) rfl rfl (by exact qw_fieldAddr rfl) ?_
  refine dg_r rfl rfl rfl (.inl rfl) rfl rfl (by exact qr_load1 rfl (by repeat (first | exact List.Mem.head _ | apply List.Mem.tail | apply List.mem_append_right | assumption)) rfl) ?_
  refine dg_w rfl rfl (.inl rfl) rfl rfl (by exact qw_indexAddr rfl rfl (by omega) (by omega)) ?_
  refine dg_r rfl rfl rfl (.inl rfl) rfl rfl (by exact qr_load1' rfl (List.mem_cons_of_mem _ (List.mem_cons_of_mem _ hma)) hga) ?_
  refine dg_w rfl rfl (.inl rfl) rfl rfl (by exact qw_fieldAddr rfl) ?_
  refine dg_r rfl rfl rfl (.inl rfl) rfl rfl (by exact qr_load1 rfl (by repeat (first | exact List.Mem.head _ | apply List.Mem.tail | apply List.mem_append_right | assumption)) rfl) ?_
  refine dg_w rfl rfl (.inl rfl) rfl rfl (by exact qw_indexAddr rfl rfl (by omega) (by omega)) ?_
  refine dg_r rfl rfl rfl (.inl rfl) rfl rfl (by exact qr_load1' rfl (List.mem_cons_of_mem _ (List.mem_cons_of_mem _ hmb)) hgb) ?_
  refine dg_split rfl rfl (.inl rfl) rfl rfl (by exact qc_lss rfl rfl) ?_ ?_
  · intro h1
    have hfin : betterF a b = true := by simp [betterF, h1]
    refine dg_w rfl rfl (.inl rfl) rfl rfl (by exact qw_move rfl) ?_
    refine dg_s rfl rfl (guard_mk rfl rfl rfl rfl) rfl rfl ?_
    refine dg_s rfl rfl (guard_mk rfl rfl rfl rfl) rfl rfl ?_
    refine dg_s rfl rfl (guard_mk rfl rfl rfl rfl) rfl rfl ?_
    refine dg_s rfl rfl (guard_mk rfl rfl rfl rfl) rfl rfl ?_
    refine dg_s rfl rfl (guard_mk rfl rfl rfl rfl) rfl rfl ?_
    refine dg_s rfl rfl (guard_mk rfl rfl rfl rfl) rfl rfl ?_
    refine dg_s rfl rfl (guard_mk rfl rfl rfl rfl) rfl rfl ?_
    refine dg_s rfl rfl (guard_mk rfl rfl rfl rfl) rfl rfl ?_
    refine dg_s rfl rfl (guard_mk rfl rfl rfl rfl) rfl rfl ?_
    refine dg_s rfl rfl (guard_mk rfl rfl rfl rfl) rfl rfl ?_
    refine dg_s rfl rfl (guard_un rfl rfl rfl) rfl rfl ?_
    refine dg_s rfl rfl (guard_un rfl rfl rfl) rfl rfl ?_
    refine dg_se rfl rfl (guard_un rfl rfl rfl) rfl rfl ?_
    refine dg_se rfl rfl (guard_un rfl rfl rfl) rfl rfl ?_
    refine dg_s rfl rfl (guard_un rfl rfl rfl) rfl rfl ?_
    refine dg_s rfl rfl (guard_mk rfl rfl rfl rfl) rfl rfl ?_
    refine dg_w rfl rfl (.inl rfl) rfl rfl (by exact qw_pick_t rfl rfl) ?_
    refine dg_w rfl rfl (.inl rfl) rfl rfl (by exact qw_assign rfl) ?_
    refine dg_nil ?_
    refine qg_then ?_
    refine cg_ret ?_
    exact qg_end (.inl rfl) _ (.cons (.tmp rfl) (.nil)) L (by repeat (first | exact List.Sublist.refl _ | exact List.nil_sublist _ | exact List.sublist_append_right _ _ | apply List.Sublist.cons_cons | apply List.Sublist.cons)) ⟨by rw [hfin]; rfl, rfl⟩
  · intro h1
    refine dg_w rfl rfl (.inl rfl) rfl rfl (by exact qw_move rfl) ?_
    refine dg_w rfl rfl (.inr (guard_mk rfl rfl rfl rfl)) rfl rfl (by exact qw_fieldAddr rfl) ?_
    refine dg_r rfl rfl rfl (.inr (guard_mk rfl rfl rfl rfl)) rfl rfl (by exact qr_load1 rfl (by repeat (first | exact List.Mem.head _ | apply List.Mem.tail | apply List.mem_append_right | assumption)) rfl) ?_
    refine dg_w rfl rfl (.inr (guard_mk rfl rfl rfl rfl)) rfl rfl (by exact qw_indexAddr rfl rfl (by omega) (by omega)) ?_
    refine dg_r rfl rfl rfl (.inr (guard_mk rfl rfl rfl rfl)) rfl rfl (by exact qr_load1' rfl (List.mem_cons_of_mem _ (List.mem_cons_of_mem _ hma)) hga) ?_
    refine dg_w rfl rfl (.inr (guard_mk rfl rfl rfl rfl)) rfl rfl (by exact qw_fieldAddr rfl) ?_
    refine dg_r rfl rfl rfl (.inr (guard_mk rfl rfl rfl rfl)) rfl rfl (by exact qr_load1 rfl (by repeat (first | exact List.Mem.head _ | apply List.Mem.tail | apply List.mem_append_right | assumption)) rfl) ?_
    refine dg_w rfl rfl (.inr (guard_mk rfl rfl rfl rfl)) rfl rfl (by exact qw_indexAddr rfl rfl (by omega) (by omega)) ?_
    refine dg_r rfl rfl rfl (.inr (guard_mk rfl rfl rfl rfl)) rfl rfl (by exact qr_load1' rfl (List.mem_cons_of_mem _ (List.mem_cons_of_mem _ hmb)) hgb) ?_
    refine dg_split rfl rfl (.inr (guard_mk rfl rfl rfl rfl)) rfl rfl (by exact qc_eql rfl rfl) ?_ ?_
    · intro h2
      have hfin : betterF a b = decide ((a.edges.length : Int) < b.edges.length) := by simp [betterF, h2]
      refine dg_w rfl rfl (.inr (guard_mk rfl rfl rfl rfl)) rfl rfl (by exact qw_move rfl) ?_
      refine dg_r rfl rfl rfl (.inr (guard_mk rfl rfl rfl rfl)) rfl rfl (by exact qr_loadN rfl (by repeat (first | exact List.Mem.head _ | apply List.Mem.tail | apply List.mem_append_right | assumption)) (by repeat (first | exact SegL.done | apply SegL.take | apply SegL.skip))) ?_
      refine dg_r rfl rfl rfl (.inr (guard_mk rfl rfl rfl rfl)) rfl rfl (by exact qr_loadN rfl (by repeat (first | exact List.Mem.head _ | apply List.Mem.tail | apply List.mem_append_right | assumption)) (by repeat (first | exact SegL.done | apply SegL.take | apply SegL.skip))) ?_
      refine dg_e rfl rfl (.inr (guard_mk rfl rfl rfl rfl)) rfl rfl (by exact ev_call0 rfl (.cons rfl (.nil)) (long_ca _ _ _ _ _ rfl rfl O _)) ?_
      rintro _ _ ⟨rfl, rfl⟩
      refine ⟨(SubP.of (List.Sublist.refl _)), ?_⟩
      refine dg_e rfl rfl (.inr (guard_mk rfl rfl rfl rfl)) rfl rfl (by exact ev_call0 rfl (.cons rfl (.nil)) (long_ca _ _ _ _ _ rfl rfl O _)) ?_
      rintro _ _ ⟨rfl, rfl⟩
      refine ⟨(SubP.of (List.Sublist.refl _)), ?_⟩
      refine dg_w rfl rfl (.inr (guard_mk rfl rfl rfl rfl)) rfl rfl (by exact qw_lss rfl rfl) ?_
      refine dg_w rfl rfl (.inr (guard_mk rfl rfl rfl rfl)) rfl rfl (by exact qw_pick_t rfl rfl) ?_
      refine dg_w rfl rfl (.inl rfl) rfl rfl (by exact qw_pick_f rfl rfl) ?_
      refine dg_w rfl rfl (.inl rfl) rfl rfl (by exact qw_assign rfl) ?_
      refine dg_nil ?_
      refine qg_then ?_
      refine cg_ret ?_
      exact qg_end (.inl rfl) _ (.cons (.tmp rfl) (.nil)) L (by repeat (first | exact List.Sublist.refl _ | exact List.nil_sublist _ | exact List.sublist_append_right _ _ | apply List.Sublist.cons_cons | apply List.Sublist.cons)) ⟨by rw [hfin]; rfl, rfl⟩
    · intro h2
      have hfin : betterF a b = false := by simp [betterF, h1, h2]
      refine dg_w rfl rfl (.inr (guard_mk rfl rfl rfl rfl)) rfl rfl (by exact qw_move rfl) ?_
      refine dg_s rfl rfl (guard_mk rfl rfl rfl rfl) rfl rfl ?_
      refine dg_s rfl rfl (guard_mk rfl rfl rfl rfl) rfl rfl ?_
      refine dg_se rfl rfl (guard_mk rfl rfl rfl rfl) rfl rfl ?_
      refine dg_se rfl rfl (guard_mk rfl rfl rfl rfl) rfl rfl ?_
      refine dg_s rfl rfl (guard_mk rfl rfl rfl rfl) rfl rfl ?_
      refine dg_w rfl rfl (.inr (guard_mk rfl rfl rfl rfl)) rfl rfl (by exact qw_pick_f rfl rfl) ?_
      refine dg_w rfl rfl (.inl rfl) rfl rfl (by exact qw_pick_f rfl rfl) ?_
      refine dg_w rfl rfl (.inl rfl) rfl rfl (by exact qw_assign rfl) ?_
      refine dg_nil ?_
      refine qg_then ?_
      refine cg_ret ?_
      exact qg_end (.inl rfl) _ (.cons (.tmp rfl) (.nil)) L (by repeat (first | exact List.Sublist.refl _ | exact List.nil_sublist _ | exact List.sublist_append_right _ _ | apply List.Sublist.cons_cons | apply List.Sublist.cons)) ⟨by rw [hfin]; rfl, rfl⟩

/-- path.Best. -/
noncomputable def bestF (n : Nat) (es : List Edge) (from_ to a : Int) : RouteP × Int := if (allF n es from_ to a).2 ≠ 0 then (⟨[], [], []⟩, (allF n es from_ to a).2) else match (allF n es from_ to a).1 with
  | [] => (⟨[], [], []⟩, 27)
  | r :: rs => (bestOf rs r, 0)
def nilRV : RV := ⟨none, 0, 0, none, 0, 0, none, 0, 0⟩
theorem rdl_nil {α : Type} {L : List Blk} {enc : α → List Value} {k : Nat} : RdL L enc k (.slice none 0 0) [] := ⟨none, 0, rfl, by simp, Nat.le_refl 0, ⟨fun q h => (by cases h), fun _ => rfl⟩, fun h => absurd rfl h⟩
theorem nilRV_at (B : List Blk) : RtAt B nilRV ⟨[], [], []⟩ := ⟨rdl_nil, rdl_nil, rdl_nil⟩

theorem best_ca (n : Nat) (es : List Edge) (from_ to a : Int) (p : Option Addr) (cap : Nat) (ev : Value) (O : Out) (L : List Blk) (he : RdL L encE 8 ev es) (hg : ∀ e ∈ es, goodEdge e) (ha : isU64 a) (hn : n ≤ 1000) (hes : es.length ≤ 1000)
    (hne : ∀ r ∈ (allF n es from_ to a).1, 0 < r.amounts.length) :
    CA Try.prog 9 [.agg #[.slice p n cap, ev], I from_, I to, U a] O L fun v L' => ∃ t B, v = .tuple #[.agg (encRV t).toArray, I (bestF n es from_ to a).2] ∧ L' = B ++ L ∧ RtAt B t (bestF n es from_ to a).1 := by
  obtain ⟨p2, cap2, rfl, hl2, hcap2, hsp2, hR2⟩ := id he
  refine ca_enter Try.func9 rfl rfl ?_
  rw [Try.ntmps9]
  simp only [envOf]
  refine cg_seq ?_
  refine cg_region ?_
  refine rg_e (.inl rfl) rfl rfl (by exact ev_box rfl (by first | exact CellsOf.agg | exact CellsOf.one rfl)) ?_
  rintro _ _ ⟨b4, rfl, rfl⟩
  refine rg_e (.inl rfl) rfl rfl (by exact ev_alloc (by first | exact CellsOf.agg | exact CellsOf.one rfl)) ?_
  rintro _ _ ⟨b8, rfl, rfl⟩
  refine rg_q (.inl rfl) rfl rfl (by exact QW.qr (qw_assign rfl)) ?_
  refine rg_nil ?_
  refine qg_then ?_
  refine cg_seq ?_
  refine cg_region ?_
  refine rg_q (.inl rfl) rfl rfl (by exact qr_loadN rfl (by repeat (first | exact List.Mem.head _ | apply List.Mem.tail | apply List.mem_append_right | assumption)) (by repeat (first | exact SegL.done | apply SegL.take | apply SegL.skip))) ?_
  refine rg_q (.inl rfl) rfl rfl (by exact QW.qr (qw_move rfl)) ?_
  refine rg_q (.inl rfl) rfl rfl (by exact QW.qr (qw_move rfl)) ?_
  refine rg_q (.inl rfl) rfl rfl (by exact QW.qr (qw_move rfl)) ?_
  refine rg_e (.inl rfl) rfl rfl (by exact ev_call0 rfl (.cons rfl (.cons rfl (.cons rfl (.cons rfl (.nil))))) (all_ca n es from_ to a p cap _ O _ (he.mono (fun q hq => List.mem_cons_of_mem _ (List.mem_cons_of_mem _ hq))) hg ha hn hes)) ?_
  rintro _ _ ⟨ov, ts, B, rfl, rfl, hov, hrs⟩
  have hlen := allF_len n es from_ to a
  obtain ⟨res, hres⟩ : ∃ r, r = allF n es from_ to a := ⟨_, rfl⟩
  rw [← hres] at hrs hlen hne ⊢
  obtain ⟨rs, er⟩ := res
  obtain ⟨po, co, rfl, hlo, hco, hso, hRo⟩ := id hov
  have htl : ts.length = rs.length := hrs.1
  refine rg_q (.inl rfl) rfl rfl (by exact QW.qr (qw_move rfl)) ?_
  refine rg_q (.inl rfl) rfl rfl (by exact QW.qr (qw_extract rfl rfl)) ?_
  refine rg_q (.inl rfl) rfl rfl (by exact QW.qr (qw_extract rfl rfl)) ?_
  refine rg_q (.inl rfl) rfl rfl (by exact QW.qr (qw_assign rfl)) ?_
  refine rg_q (.inl rfl) rfl rfl (by exact QW.qr (qw_assign rfl)) ?_
  refine rg_nil ?_
  refine qg_then ?_
  refine cg_seq ?_
  refine cg_seq ?_
  refine cg_region ?_
  refine rg_q (.inl rfl) rfl rfl (by exact QW.qr (qw_move rfl)) ?_
  refine rg_split (.inl rfl) rfl rfl (by exact qc_neq rfl rfl) ?_ ?_
  · intro hc
    have hfin : bestF n es from_ to a = (⟨[], [], []⟩, er) := by rw [bestF, ← hres, if_pos hc]
    refine rg_nil ?_
    refine qg_then ?_
    refine cg_true rfl ?_
    refine cg_seq ?_
    refine cg_region ?_
    refine rg_q (.inl rfl) rfl rfl (by exact QW.qr (qw_build (.nil) rfl (.nil))) ?_
    refine rg_q (.inl rfl) rfl rfl (by exact QW.qr (qw_move rfl)) ?_
    refine rg_e0 (.inl rfl) rfl (by exact ev_store rfl rfl (by first | exact CellsOf.agg | exact CellsOf.one rfl) (by repeat (first | exact List.Mem.head _ | apply List.Mem.tail | apply List.mem_append_right | assumption)) (by repeat (first | exact SetSeg.done | apply SetSeg.take | apply SetSeg.skip)) rfl rfl (by repeat (first | exact Upd.here | apply Upd.there | apply Upd.app)) (by first | exact Or.inl ⟨inferInstance, rfl⟩ | exact Or.inr inferInstance)) ?_
    rintro _ _ ⟨rfl, rfl⟩
    refine rg_q (.inl rfl) rfl rfl (by exact QW.qr (qw_assign rfl)) ?_
    refine rg_nil ?_
    refine qg_then ?_
    refine cg_ret ?_
    refine qg_then_ret ?_
    exact qg_end_sp (.inl rfl) _ (.cons (resCellN rfl (by repeat (first | exact List.Mem.head _ | apply List.Mem.tail | apply List.mem_append_right | assumption)) (by repeat (first | exact SegL.done | apply SegL.take | apply SegL.skip))) (.cons (.tmp rfl) (.nil))) L (cat_sub (ls' := []) (ls := [B, [(b8, _)], [(b4, _)]]) (by repeat (first | exact SubM.nil | refine SubM.cons (by repeat (first | exact Ins.here | apply Ins.there)) ?_))) ⟨nilRV, [], by rw [hfin]; rfl, rfl, by rw [hfin]; exact nilRV_at _⟩
  · intro hc
    obtain rfl : er = 0 := Decidable.not_not.1 hc
    refine rg_nil ?_
    refine qg_then ?_
    refine cg_false rfl ?_
    refine cg_skip ?_
    refine qg_then ?_
    refine cg_seq ?_
    refine cg_seq ?_
    refine cg_region ?_
    refine rg_q (.inl rfl) rfl rfl (by exact QW.qr (qw_move rfl)) ?_
    refine rg_q (.inl rfl) rfl rfl (by exact QW.qr (qw_len_slice (t := 34) (.cons rfl (.nil)) rfl)) ?_
    refine rg_split (.inl rfl) rfl rfl (by exact qc_eql rfl rfl) ?_ ?_
    · intro hz
      obtain rfl : rs = [] := List.length_eq_zero_iff.1 (by simp only at hlen; omega)
      have hfin : bestF n es from_ to a = (⟨[], [], []⟩, 27) := by rw [bestF, ← hres, if_neg (fun h => h rfl)]
      refine rg_nil ?_
      refine qg_then ?_
      refine cg_true rfl ?_
      refine cg_seq ?_
      refine cg_region ?_
      refine rg_q (.inl rfl) rfl rfl (by exact QW.qr (qw_build (.nil) rfl (.nil))) ?_
      refine rg_e0 (.inl rfl) rfl (by exact ev_store rfl rfl (by first | exact CellsOf.agg | exact CellsOf.one rfl) (by repeat (first | exact List.Mem.head _ | apply List.Mem.tail | apply List.mem_append_right | assumption)) (by repeat (first | exact SetSeg.done | apply SetSeg.take | apply SetSeg.skip)) rfl rfl (by repeat (first | exact Upd.here | apply Upd.there | apply Upd.app)) (by first | exact Or.inl ⟨inferInstance, rfl⟩ | exact Or.inr inferInstance)) ?_
      rintro _ _ ⟨rfl, rfl⟩
      refine rg_q (.inl rfl) rfl rfl (by exact QW.qr (qw_assign rfl)) ?_
      refine rg_nil ?_
      refine qg_then ?_
      refine cg_ret ?_
      refine qg_then_ret ?_
      exact qg_end_sp (.inl rfl) _ (.cons (resCellN rfl (by repeat (first | exact List.Mem.head _ | apply List.Mem.tail | apply List.mem_append_right | assumption)) (by repeat (first | exact SegL.done | apply SegL.take | apply SegL.skip))) (.cons (.tmp rfl) (.nil))) L (cat_sub (ls' := []) (ls := [B, [(b8, _)], [(b4, _)]]) (by repeat (first | exact SubM.nil | refine SubM.cons (by repeat (first | exact Ins.here | apply Ins.there)) ?_))) ⟨nilRV, [], by rw [hfin]; rfl, rfl, by rw [hfin]; exact nilRV_at _⟩
    · intro hz
      obtain ⟨r0, rest, rfl⟩ : ∃ r0 rest, rs = r0 :: rest := by
        cases rs with
        | nil => exact absurd (show (ts.length : Int) = 0 by rw [htl]; rfl) hz
        | cons a l => exact ⟨a, l, rfl⟩
      obtain ⟨bo, oo, Ao, yo, fzo, rfl, hmo, hsego⟩ := hRo (by omega)
      have hfin : bestF n es from_ to a = (bestOf rest r0, 0) := by rw [bestF, ← hres, if_neg (fun h => h rfl)]
      have hpos : 0 < ts.length := by omega
      have hg0 := hsego.elem (enc := encRV) (k := 3) (fun _ => rfl) hpos
      have hat0 := hrs.2 0 hpos (by simp)
      generalize ts[0] = tv at hg0 hat0
      obtain ⟨q1, l1, c1, q2, l2, c2, q3, l3, c3⟩ := tv
      refine rg_nil ?_
      refine qg_then ?_
      refine cg_false rfl ?_
      refine cg_skip ?_
      refine qg_then ?_
      refine cg_seq ?_
      refine cg_region ?_
      refine rg_q (.inl rfl) rfl rfl (by exact QW.qr (qw_move rfl)) ?_
      refine rg_q (.inl rfl) rfl rfl (by exact QW.qr (qw_indexAddr rfl rfl (by omega) (by omega))) ?_
      refine rg_q (.inl rfl) rfl rfl (by exact qr_loadS (vs := encRV ⟨q1, l1, c1, q2, l2, c2, q3, l3, c3⟩) rfl (mem_cat (s := B) (ls := [B, [(b8, _)], [(b4, _)]]) (by repeat (first | exact List.Mem.head _ | apply List.Mem.tail)) hmo) hg0 rfl) ?_
      refine rg_e (.inl rfl) rfl rfl (by exact ev_alloc (by first | exact CellsOf.agg | exact CellsOf.one rfl)) ?_
      rintro _ _ ⟨b12, rfl, rfl⟩
      refine rg_e0 (.inl rfl) rfl (by exact ev_store rfl rfl (by first | exact CellsOf.agg | exact CellsOf.one rfl) (by repeat (first | exact List.Mem.head _ | apply List.Mem.tail | apply List.mem_append_right | assumption)) (by repeat (first | exact SetSeg.done | apply SetSeg.take | apply SetSeg.skip)) rfl rfl (by repeat (first | exact Upd.here | apply Upd.there | apply Upd.app)) (by first | exact Or.inl ⟨inferInstance, rfl⟩ | exact Or.inr inferInstance)) ?_
      rintro _ _ ⟨rfl, rfl⟩
      refine rg_nil ?_
      refine qg_then ?_
      refine cg_seq ?_
      refine cg_seq ?_
      refine cg_region ?_
      refine rg_q (.inl rfl) rfl rfl (by exact QW.qr (qw_move rfl)) ?_
      refine rg_q (.inl rfl) rfl rfl (by exact QW.qr (qw_slice_lo rfl rfl (by omega) (by omega))) ?_
      refine rg_q (.inl rfl) rfl rfl (by exact QW.qr (qw_len_slice (t := 34) (.cons rfl (.nil)) rfl)) ?_
      refine rg_q (.inl rfl) rfl rfl (by exact QW.qr (qw_move rfl)) ?_
      refine rg_nil ?_
      refine qg_then ?_
      refine cg_block ?_
      refine cg_loop (fun E' L' m => ∃ (k : Nat) (tb : RV) (rb : RouteP), k + 1 ≤ ts.length ∧ RtAt B tb rb ∧ 0 < rb.amounts.length ∧ bestOf ((r0 :: rest).drop (k + 1)) rb = bestOf rest r0 ∧
        E' = [(8, .pointer (some ⟨b8, 0, none⟩)), (9, .int .i64 0), (12, .pointer (some ⟨b12, 0, none⟩)), (35, .slice (some (if co = (1 : Int).toNat then ⟨bo, oo, none⟩ else ⟨bo, oo + (1 : Int).toNat * 3, none⟩)) (ts.length - (1 : Int).toNat) (co - (1 : Int).toNat)), (36, .int .i64 ((ts.length - (1 : Int).toNat : Nat) : Int)), (37, .int .i64 k)] ∧
        L' = cat [[(b12, .cells (encRV tb).toArray 41 (0, 0))], B, [(b8, .cells (encRV nilRV).toArray 41 (0, 0))], [(b4, Obj.cells [Value.slice p n cap, Value.slice p2 es.length cap2].toArray 32 (0, 0))]] L ∧ m = ts.length - k)
        _ _ _ ⟨0, _, r0, by omega, hat0, hne r0 (by simp), rfl, rfl, rfl, rfl⟩ (by repeat (first | exact Sub.nil | refine Sub.cons rfl ?_ | refine Sub.cons (congrArg (fun z => some (Value.int IntKind.i64 z)) (by omega)) ?_)) (List.Perm.refl _) ?_
      rintro _ _ _ ⟨k, tb, rb, hk, hat, hnb, hbest, rfl, rfl, rfl⟩
      obtain ⟨u1, m1, d1, u2, m2, d2, u3, m3, d3⟩ := tb
      unfold encRV
      refine cg_seq ?_
      refine cg_region ?_
      refine rg_split (.inl rfl) rfl rfl (by exact qc_lss rfl rfl) ?_ ?_
      · intro hlt
        have hk1 : k + 1 < ts.length := by omega
        have hlen2 : ts.length ≤ 32 := by rw [htl]; exact hlen
        have hc35 : ¬ co = (1 : Int).toNat := by omega
        rw [if_neg hc35]
        have hk2 : k + 1 < (r0 :: rest).length := by rw [← htl]; omega
        have hfe := hsego.elem (enc := encRV) (k := 3) (fun _ => rfl) hk1
        have hat1 := hrs.2 (k + 1) hk1 hk2
        have hn1 := hne ((r0 :: rest)[k + 1]) (List.getElem_mem hk2)
        rw [bestOf_drop hk2] at hbest
        generalize ts[k + 1] = tv at hfe hat1
        generalize (r0 :: rest)[k + 1] = r1 at hat1 hn1 hbest
        obtain ⟨v1, g1, f1, v2, g2, f2, v3, g3, f3⟩ := tv
        have hfe2 : Seg Ao (oo + (1 : Int).toNat * 3 + (k : Int).toNat * 3) [.slice v1 g1 f1, .slice v2 g2 f2, .slice v3 g3 f3] := by
          rw [show oo + (1 : Int).toNat * 3 + (k : Int).toNat * 3 = oo + (k + 1) * 3 from by omega]; exact hfe
        refine rg_nil ?_
        refine qg_then ?_
        refine cg_seq ?_
        refine cg_true rfl ?_
        refine cg_skip ?_
        refine qg_then ?_
        refine cg_seq ?_
        refine cg_block ?_
        refine cg_seq ?_
        refine cg_region ?_
        refine rg_q (.inl rfl) rfl rfl (by exact QW.qr (qw_indexAddr rfl rfl (by omega) (by show (k : Int) < _; omega))) ?_
        refine rg_q (.inl rfl) rfl rfl (by exact qr_loadS rfl (mem_cat (s := B) (by repeat (first | exact List.Mem.head _ | apply List.Mem.tail)) hmo) hfe2 rfl) ?_
        refine rg_e (.inl rfl) rfl rfl (by exact ev_alloc (by first | exact CellsOf.agg | exact CellsOf.one rfl)) ?_
        rintro _ _ ⟨b14, rfl, rfl⟩
        refine rg_e0 (.inl rfl) rfl (by exact ev_store rfl rfl (by first | exact CellsOf.agg | exact CellsOf.one rfl) (by repeat (first | exact List.Mem.head _ | apply List.Mem.tail | apply List.mem_append_right | assumption)) (by repeat (first | exact SetSeg.done | apply SetSeg.take | apply SetSeg.skip)) rfl rfl (by repeat (first | exact Upd.here | apply Upd.there | apply Upd.app)) (by first | exact Or.inl ⟨inferInstance, rfl⟩ | exact Or.inr inferInstance)) ?_
        rintro _ _ ⟨rfl, rfl⟩
        refine rg_nil ?_
        refine qg_then ?_
        refine cg_seq ?_
        refine cg_region ?_
        refine rg_q (.inl rfl) rfl rfl (by exact qr_loadN rfl (by repeat (first | exact List.Mem.head _ | apply List.Mem.tail | apply List.mem_append_right | assumption)) (by repeat (first | exact SegL.done | apply SegL.take | apply SegL.skip))) ?_
        refine rg_q (.inl rfl) rfl rfl (by exact qr_loadN rfl (by repeat (first | exact List.Mem.head _ | apply List.Mem.tail | apply List.mem_append_right | assumption)) (by repeat (first | exact SegL.done | apply SegL.take | apply SegL.skip))) ?_
        refine rg_e (.inl rfl) rfl rfl (by exact ev_call0 rfl (.cons rfl (.cons rfl (.nil))) (better_ca r1 rb ⟨v1, g1, f1, v2, g2, f2, v3, g3, f3⟩ ⟨u1, m1, d1, u2, m2, d2, u3, m3, d3⟩ O _ (hat1.mono (fun q hq => List.mem_cons_of_mem _ (mem_cat (s := B) (by repeat (first | exact List.Mem.head _ | apply List.Mem.tail)) hq))) (hat.mono (fun q hq => List.mem_cons_of_mem _ (mem_cat (s := B) (by repeat (first | exact List.Mem.head _ | apply List.Mem.tail)) hq))) hn1 hnb)) ?_
        rintro _ _ ⟨rfl, rfl⟩
        generalize hbt : betterF r1 rb = bt
        cases bt
        · skip
          refine rg_nil ?_
          refine qg_then ?_
          refine cg_false rfl ?_
          refine cg_skip ?_
          refine qg_block ?_
          refine qg_then ?_
          refine cg_region ?_
          refine rg_q (.inl rfl) rfl rfl (by exact QW.qr (qw_add_in rfl rfl (by unfold inK; omega))) ?_
          refine rg_q (.inl rfl) rfl rfl (by exact QW.qr (qw_move rfl)) ?_
          refine rg_nil ?_
          exact qg_round_sp _ _ _ ⟨k + 1, ⟨u1, m1, d1, u2, m2, d2, u3, m3, d3⟩, rb, by omega, hat, hnb, by rw [← hbest, hbt, if_neg (by decide)], rfl, rfl, rfl⟩ (by repeat (first | exact Sub.nil | refine Sub.cons rfl ?_ | refine Sub.cons (congrArg (fun z => some (Value.int IntKind.i64 z)) (by omega)) ?_)) (cat_sub (ls' := [[(b12, _)], B, [(b8, _)], [(b4, _)]]) (ls := [[(b14, _)], [(b12, _)], B, [(b8, _)], [(b4, _)]]) (by repeat (first | exact SubM.nil | refine SubM.cons (by repeat (first | exact Ins.here | apply Ins.there)) ?_))) (by omega)
        · skip
          refine rg_nil ?_
          refine qg_then ?_
          refine cg_true rfl ?_
          refine cg_region ?_
          refine rg_q (.inl rfl) rfl rfl (by exact qr_loadN rfl (by repeat (first | exact List.Mem.head _ | apply List.Mem.tail | apply List.mem_append_right | assumption)) (by repeat (first | exact SegL.done | apply SegL.take | apply SegL.skip))) ?_
          refine rg_e0 (.inl rfl) rfl (by exact ev_store rfl rfl (by first | exact CellsOf.agg | exact CellsOf.one rfl) (by repeat (first | exact List.Mem.head _ | apply List.Mem.tail | apply List.mem_append_right | assumption)) (by repeat (first | exact SetSeg.done | apply SetSeg.take | apply SetSeg.skip)) rfl rfl (by repeat (first | exact Upd.here | apply Upd.there | apply Upd.app)) (by first | exact Or.inl ⟨inferInstance, rfl⟩ | exact Or.inr inferInstance)) ?_
          rintro _ _ ⟨rfl, rfl⟩
          refine rg_nil ?_
          refine qg_block ?_
          refine qg_then ?_
          refine cg_region ?_
          refine rg_q (.inl rfl) rfl rfl (by exact QW.qr (qw_add_in rfl rfl (by unfold inK; omega))) ?_
          refine rg_q (.inl rfl) rfl rfl (by exact QW.qr (qw_move rfl)) ?_
          refine rg_nil ?_
          exact qg_round_sp _ _ _ ⟨k + 1, ⟨v1, g1, f1, v2, g2, f2, v3, g3, f3⟩, r1, by omega, hat1, hn1, by rw [← hbest, hbt, if_pos rfl], rfl, rfl, rfl⟩ (by repeat (first | exact Sub.nil | refine Sub.cons rfl ?_ | refine Sub.cons (congrArg (fun z => some (Value.int IntKind.i64 z)) (by omega)) ?_)) (cat_sub (ls' := [[(b12, _)], B, [(b8, _)], [(b4, _)]]) (ls := [[(b14, _)], [(b12, _)], B, [(b8, _)], [(b4, _)]]) (by repeat (first | exact SubM.nil | refine SubM.cons (by repeat (first | exact Ins.here | apply Ins.there)) ?_))) (by omega)
      · intro hlt
        rw [List.drop_eq_nil_of_le (by rw [← htl]; omega), bestOf] at hbest
        refine rg_nil ?_
        refine qg_then ?_
        refine cg_seq ?_
        refine cg_false rfl ?_
        refine cg_exit ?_
        refine qg_then_exit ?_
        refine qg_then_exit ?_
        refine qg_block_here ?_
        refine qg_then ?_
        refine cg_seq ?_
        refine cg_region ?_
        refine rg_q (.inl rfl) rfl rfl (by exact qr_loadN rfl (by repeat (first | exact List.Mem.head _ | apply List.Mem.tail | apply List.mem_append_right | assumption)) (by repeat (first | exact SegL.done | apply SegL.take | apply SegL.skip))) ?_
        refine rg_e0 (.inl rfl) rfl (by exact ev_store rfl rfl (by first | exact CellsOf.agg | exact CellsOf.one rfl) (by repeat (first | exact List.Mem.head _ | apply List.Mem.tail | apply List.mem_append_right | assumption)) (by repeat (first | exact SetSeg.done | apply SetSeg.take | apply SetSeg.skip)) rfl rfl (by repeat (first | exact Upd.here | apply Upd.there | apply Upd.app)) (by first | exact Or.inl ⟨inferInstance, rfl⟩ | exact Or.inr inferInstance)) ?_
        rintro _ _ ⟨rfl, rfl⟩
        refine rg_q (.inl rfl) rfl rfl (by exact QW.qr (qw_assign rfl)) ?_
        refine rg_nil ?_
        refine qg_then ?_
        refine cg_ret ?_
        exact qg_end_sp (.inl rfl) _ (.cons (resCellN rfl (by repeat (first | exact List.Mem.head _ | apply List.Mem.tail | apply List.mem_append_right | assumption)) (by repeat (first | exact SegL.done | apply SegL.take | apply SegL.skip))) (.cons (.tmp rfl) (.nil))) _ (cat_sub (ls' := [B]) (ls := [[(b12, _)], B, [(b8, _)], [(b4, _)]]) (by repeat (first | exact SubM.nil | refine SubM.cons (by repeat (first | exact Ins.here | apply Ins.there)) ?_))) ⟨⟨u1, m1, d1, u2, m2, d2, u3, m3, d3⟩, B, by rw [hfin]; rfl, rfl, by rw [hfin, ← hbest]; exact hat⟩

end Go.Proofs.Ytjimpciiaceleaa