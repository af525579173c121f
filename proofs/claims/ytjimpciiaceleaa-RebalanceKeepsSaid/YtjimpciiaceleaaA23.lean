/-
  THE WALKS of path's Route.Go and rebalance's Plan.Go: a way is paid, channel by channel. Conditions: sizes; each sending is there, and fits.
-/
import Derived.Test.YtjimpciiaceleaaA22
namespace Go.Proofs.Ytjimpciiaceleaa
open Fw
set_option linter.unusedVariables false
set_option maxRecDepth 100000

def gi (l : List Int) (k : Nat) : Int := (l[k]?).getD 0
theorem gi_eq {l : List Int} {k : Nat} (h : k < l.length) : gi l k = l[k] := by unfold gi; rw [List.getElem?_eq_getElem h]; rfl
theorem gi_get {l : List Int} {k : Nat} (h : k < l.length) : l[k]? = some (gi l k) := by rw [gi_eq h, List.getElem?_eq_getElem h]
def sendF (es : List Edge) (x u a : Int) : List Edge := es.set x.toNat (moved (edgeAt es x) (sideOf (edgeAt es x) u).toNat a)
/-- The channels behind the first k hops. -/
def goK (es : List Edge) (edges nodes am : List Int) : Nat → List Edge
  | 0 => es
  | k + 1 => sendF (goK es edges nodes am k) (gi edges k) (gi nodes k) (gi am k)
theorem goK_len (es : List Edge) (edges nodes am : List Int) : ∀ k, (goK es edges nodes am k).length = es.length
  | 0 => rfl
  | k + 1 => by
    have := goK_len es edges nodes am k
    rw [goK, sendF, List.length_set, this]
structure SendOk (n : Nat) (es : List Edge) (x u a : Int) : Prop where
  chk : checkF n es = 0
  x0 : 0 ≤ x
  x1 : x.toNat < es.length
  side : sideOf (edgeAt es x) u = 0 ∨ sideOf (edgeAt es x) u = 1
  au : isU64 a
  can : a ≤ canAt (edgeAt es x) (sideOf (edgeAt es x) u).toNat
  room : canAt (edgeAt es x) (1 - (sideOf (edgeAt es x) u).toNat) + a < 18446744073709551616
  good : goodEdge (edgeAt es x)
theorem Fw.RdL.one {α : Type} {L : List Blk} {enc : α → List Value} {k : Nat} {v : Value} {xs : List α} (h : RdL L enc k v xs) : v.oneCell' = true := by
  obtain ⟨p, c, rfl, _⟩ := h; rfl
theorem send_ca {n : Nat} {spots : List (Int × Int)} {es : List Edge} {x u a : Int} {sv ev : Value} {O : Out} {L : List Blk} (hs : RdL L encSp 2 sv spots) (he : RdL L encE 8 ev es) (hn : spots.length ≤ 1000) (hes : es.length ≤ 1000) (h : SendOk spots.length es x u a) :
    CA Try.prog 42 [.agg #[sv, ev], I x, I u, U a] O L fun v L' => ∃ zv yv B, v = .tuple #[.agg #[zv, yv], I 0] ∧ L' = B ++ L ∧ RdL B encSp 2 zv spots ∧ RdL B encE 8 yv (sendF es x u a) := by
  have h2 := h.side
  refine sent_ca spots es x u a (sideOf (edgeAt es x) u).toNat sv ev he.one O L hs he hn hes h.chk h.x0 h.x1 ?_ ?_ h.au h.can h.room h.good
  · omega
  · omega

theorem go_ca (spots : List (Int × Int)) (es : List Edge) (nodes edges am : List Int) (sv ev nv xv cv : Value) (O : Out) (L0 L : List Blk) (hL0 : ∀ q, q ∈ L0 → q ∈ L) (hs : RdL L0 encSp 2 sv spots) (he : RdL L0 encE 8 ev es) (hN : RdL L encI 1 nv nodes) (hX : RdL L encI 1 xv edges) (hA : RdL L encU 1 cv am)
    (hn : spots.length ≤ 1000) (hes : es.length ≤ 1000) (hnl : nodes.length = edges.length + 1) (hal : am.length = edges.length) (hxl : edges.length ≤ 1000) (hck : checkF spots.length es = 0)
    (hok : ∀ k, k < edges.length → SendOk spots.length (goK es edges nodes am k) (gi edges k) (gi nodes k) (gi am k)) :
    CA Try.prog 31 [.agg #[nv, xv, cv], .agg #[sv, ev]] O L fun v L' => ∃ zv yv B, v = .tuple #[.agg #[zv, yv], I 0] ∧ L' = B ++ L ∧ RdL (B ++ L0) encSp 2 zv spots ∧ RdL (B ++ L0) encE 8 yv (goK es edges nodes am edges.length) := by
  obtain ⟨pz, cz, rfl, _⟩ := id hs
  obtain ⟨pe, ce, rfl, _⟩ := id he
  obtain ⟨pn, cn, rfl, _, _, _, hRn⟩ := id hN
  obtain ⟨px, cx, rfl, _, _, _, hRx⟩ := id hX
  obtain ⟨pa, ca, rfl, _, _, _, hRa⟩ := id hA
  refine ca_enter Try.func31 rfl rfl ?_
  rw [Try.ntmps31]
  simp only [envOf]
  refine cg_seq ?_
  refine cg_region ?_
  refine rg_e (.inl rfl) rfl rfl (by exact ev_box rfl (by first | exact CellsOf.agg | exact CellsOf.one rfl)) ?_
  rintro _ _ ⟨b2, rfl, rfl⟩
  refine rg_e (.inl rfl) rfl rfl (by exact ev_box rfl (by first | exact CellsOf.agg | exact CellsOf.one rfl)) ?_
  rintro _ _ ⟨b3, rfl, rfl⟩
  refine rg_e (.inl rfl) rfl rfl (by exact ev_alloc (by first | exact CellsOf.agg | exact CellsOf.one rfl)) ?_
  rintro _ _ ⟨b4, rfl, rfl⟩
  refine rg_q (.inl rfl) rfl rfl (by exact QW.qr (qw_assign rfl)) ?_
  refine rg_nil ?_
  refine qg_then ?_
  refine cg_seq ?_
  refine cg_seq ?_
  refine cg_region ?_
  refine rg_q (.inl rfl) rfl rfl (by exact QW.qr (qw_fieldAddr rfl)) ?_
  refine rg_q (.inl rfl) rfl rfl (by exact qr_load1 rfl (by repeat (first | exact List.Mem.head _ | apply List.Mem.tail | apply List.mem_append_right | assumption)) rfl) ?_
  refine rg_q (.inl rfl) rfl rfl (by exact QW.qr (qw_len_slice (t := 38) (.cons rfl (.nil)) rfl)) ?_
  refine rg_q (.inl rfl) rfl rfl (by exact QW.qr (qw_fieldAddr rfl)) ?_
  refine rg_q (.inl rfl) rfl rfl (by exact qr_load1 rfl (by repeat (first | exact List.Mem.head _ | apply List.Mem.tail | apply List.mem_append_right | assumption)) rfl) ?_
  refine rg_q (.inl rfl) rfl rfl (by exact QW.qr (qw_len_slice (t := 39) (.cons rfl (.nil)) rfl)) ?_
  refine rg_q (.inl rfl) rfl rfl (by exact QW.qr (qw_neq_f rfl rfl (by omega))) ?_
  refine rg_q (.inl rfl) rfl rfl (by exact QW.qr (qw_move rfl)) ?_
  refine rg_q (.inr (guard_mk rfl rfl rfl rfl)) rfl rfl (by exact QW.qr (qw_fieldAddr rfl)) ?_
  refine rg_q (.inr (guard_mk rfl rfl rfl rfl)) rfl rfl (by exact qr_load1 rfl (by repeat (first | exact List.Mem.head _ | apply List.Mem.tail | apply List.mem_append_right | assumption)) rfl) ?_
  refine rg_q (.inr (guard_mk rfl rfl rfl rfl)) rfl rfl (by exact QW.qr (qw_len_slice (t := 38) (.cons rfl (.nil)) rfl)) ?_
  refine rg_q (.inr (guard_mk rfl rfl rfl rfl)) rfl rfl (by exact QW.qr (qw_fieldAddr rfl)) ?_
  refine rg_q (.inr (guard_mk rfl rfl rfl rfl)) rfl rfl (by exact qr_load1 rfl (by repeat (first | exact List.Mem.head _ | apply List.Mem.tail | apply List.mem_append_right | assumption)) rfl) ?_
  refine rg_q (.inr (guard_mk rfl rfl rfl rfl)) rfl rfl (by exact QW.qr (qw_len_slice (t := 38) (.cons rfl (.nil)) rfl)) ?_
  refine rg_q (.inr (guard_mk rfl rfl rfl rfl)) rfl rfl (by exact QW.qr (qw_add_in rfl rfl (by unfold inK; omega))) ?_
  refine rg_q (.inr (guard_mk rfl rfl rfl rfl)) rfl rfl (by exact QW.qr (qw_neq_f rfl rfl (by omega))) ?_
  refine rg_q (.inl rfl) rfl rfl (by exact QW.qr (qw_pick_f rfl rfl)) ?_
  refine rg_nil ?_
  refine qg_then ?_
  refine cg_false rfl ?_
  refine cg_skip ?_
  refine qg_then ?_
  refine cg_seq ?_
  refine cg_seq ?_
  refine cg_region ?_
  refine rg_q (.inl rfl) rfl rfl (by exact qr_loadN rfl (by repeat (first | exact List.Mem.head _ | apply List.Mem.tail | apply List.mem_append_right | assumption)) (by repeat (first | exact SegL.done | apply SegL.take | apply SegL.skip))) ?_
  refine rg_e (.inl rfl) rfl rfl (by exact ev_call0 rfl (.cons rfl (.nil)) (check_ca spots.length es _ _ _ O _ ((he.mono hL0).mono (fun q hq => by repeat (first | exact hq | apply List.mem_append_right | apply List.mem_cons_of_mem))) (by omega) (by omega))) ?_
  rintro _ _ ⟨rfl, rfl⟩
  rw [hck]
  refine rg_q (.inl rfl) rfl rfl (by exact QW.qr (qw_assign rfl)) ?_
  refine rg_nil ?_
  refine qg_then ?_
  refine cg_seq ?_
  refine cg_region ?_
  refine rg_q (.inl rfl) rfl rfl (by exact QW.qr (qw_move rfl)) ?_
  refine rg_q (.inl rfl) rfl rfl (by exact QW.qr (qw_neq_f rfl rfl (fun h => h rfl))) ?_
  refine rg_nil ?_
  refine qg_then ?_
  refine cg_false rfl ?_
  refine cg_skip ?_
  refine qg_then ?_
  refine cg_seq ?_
  refine cg_seq ?_
  refine cg_region ?_
  refine rg_q (.inl rfl) rfl rfl (by exact QW.qr (qw_fieldAddr rfl)) ?_
  refine rg_q (.inl rfl) rfl rfl (by exact qr_load1 rfl (by repeat (first | exact List.Mem.head _ | apply List.Mem.tail | apply List.mem_append_right | assumption)) rfl) ?_
  refine rg_q (.inl rfl) rfl rfl (by exact QW.qr (qw_len_slice (t := 38) (.cons rfl (.nil)) rfl)) ?_
  refine rg_q (.inl rfl) rfl rfl (by exact QW.qr (qw_move rfl)) ?_
  refine rg_nil ?_
  refine qg_then ?_
  refine cg_block ?_
  refine cg_loop (fun E' L' m => ∃ (k : Nat) (zv yv : Value) (B : List Blk), k ≤ edges.length ∧ RdL (B ++ L0) encSp 2 zv spots ∧ RdL (B ++ L0) encE 8 yv (goK es edges nodes am k) ∧ E' = [(2, .pointer (some ⟨b2, 0, none⟩)), (3, .pointer (some ⟨b3, 0, none⟩)), (4, .pointer (some ⟨b4, 0, none⟩)), (35, .slice px edges.length cx), (36, .int .i64 edges.length), (37, .int .i64 k)] ∧
    L' = cat [[(b4, .cells [Value.slice none 0 0, Value.slice none 0 0].toArray 32 (0, 0))], [(b3, .cells [zv, yv].toArray 32 (0, 0))], B, [(b2, .cells [.slice pn nodes.length cn, .slice px edges.length cx, .slice pa am.length ca].toArray 41 (0, 0))]] L ∧ m = edges.length - k)
    _ _ _ ⟨0, _, _, [], by omega, hs, he, rfl, rfl, rfl⟩ (by repeat (first | exact Sub.nil | refine Sub.cons rfl ?_ | refine Sub.cons (congrArg (fun z => some (Value.int IntKind.i64 z)) (by omega)) ?_)) (List.Perm.refl _) ?_
  rintro _ _ _ ⟨k, zv, yv, B, hk, hzv, hyv, rfl, rfl, rfl⟩
  obtain ⟨pzv, czv, rfl, hzz⟩ := id hzv
  obtain ⟨pyv, cyv, rfl, hyy⟩ := id hyv
  refine cg_seq ?_
  refine cg_region ?_
  refine rg_split (.inl rfl) rfl rfl (by exact qc_lss rfl rfl) ?_ ?_
  · intro hlt
    have hklt : k < edges.length := by omega
    obtain ⟨bx, ox, Ax, tx, fzx, rfl, hmx, hsegx⟩ := hRx (by omega)
    obtain ⟨bn, on, An, tn, fzn, rfl, hmn, hsegn⟩ := hRn (by omega)
    obtain ⟨ba, oa, Aa, ta, fza, rfl, hma, hsega⟩ := hRa (by omega)
    have hgx : Ax[ox + (k : Int).toNat * 1]? = some (I (gi edges k)) := seg_i hsegx (gi_get hklt) (by simp)
    have hgn : An[on + (k : Int).toNat * 1]? = some (I (gi nodes k)) := seg_i hsegn (gi_get (by omega)) (by simp)
    have hga : Aa[oa + (k : Int).toNat * 1]? = some (U (gi am k)) := seg_u hsega (gi_get (by omega)) (by simp)
    refine rg_nil ?_
    refine qg_then ?_
    refine cg_seq ?_
    refine cg_true rfl ?_
    refine cg_skip ?_
    refine qg_then ?_
    refine cg_seq ?_
    refine cg_block ?_
    refine cg_seq ?_
    refine cg_region ?_
    refine rg_q (.inl rfl) rfl rfl (by exact QW.qr (qw_move rfl)) ?_
    refine rg_q (.inl rfl) rfl rfl (by exact QW.qr (qw_indexAddr rfl rfl (by omega) (by omega))) ?_
    refine rg_q (.inl rfl) rfl rfl (by exact qr_load1' rfl (mem_catF hmx) hgx) ?_
    refine rg_q (.inl rfl) rfl rfl (by exact QW.qr (qw_assign rfl)) ?_
    refine rg_q (.inl rfl) rfl rfl (by exact QW.qr (qw_assign rfl)) ?_
    refine rg_nil ?_
    refine qg_then ?_
    refine cg_seq ?_
    refine cg_region ?_
    refine rg_q (.inl rfl) rfl rfl (by exact QW.qr (qw_assign rfl)) ?_
    refine rg_nil ?_
    refine qg_then ?_
    refine cg_seq ?_
    refine cg_draw follows (.op 0 false (.op 1 false (.op 2 false (.op 3 false (.op 4 false (.op 5 false (.op 6 false (.op 7 false (.op 8 false (.op 9 false (.op 10 false (.op 11 false (.op 12 false (.op 13 false (.op 14 false (.op 15 false (.op 16 false (.op 17 false .done)))))))))))))))))) _ (by kernel_rfl) (SubP.of (List.Sublist.refl _)) ?_
    refine dg_r rfl rfl rfl (.inl rfl) rfl rfl (by exact qr_loadN rfl (by repeat (first | exact List.Mem.head _ | apply List.Mem.tail | apply List.mem_append_right | assumption)) (by repeat (first | exact SegL.done | apply SegL.take | apply SegL.skip))) ?_
    refine dg_w rfl rfl (.inl rfl) rfl rfl (by exact qw_move rfl) ?_
    refine dg_w rfl rfl (.inl rfl) rfl rfl (by exact qw_fieldAddr rfl) ?_
    refine dg_r rfl rfl rfl (.inl rfl) rfl rfl (by exact qr_load1 rfl (by repeat (first | exact List.Mem.head _ | apply List.Mem.tail | apply List.mem_append_right | assumption)) rfl) ?_
    refine dg_w rfl rfl (.inl rfl) rfl rfl (by exact qw_move rfl) ?_
    refine dg_w rfl rfl (.inl rfl) rfl rfl (by exact qw_indexAddr rfl rfl (by omega) (by omega)) ?_
    refine dg_r rfl rfl rfl (.inl rfl) rfl rfl (by exact qr_load1' rfl (mem_catF hmn) hgn) ?_
    refine dg_w rfl rfl (.inl rfl) rfl rfl (by exact qw_fieldAddr rfl) ?_
    refine dg_r rfl rfl rfl (.inl rfl) rfl rfl (by exact qr_load1 rfl (by repeat (first | exact List.Mem.head _ | apply List.Mem.tail | apply List.mem_append_right | assumption)) rfl) ?_
    refine dg_w rfl rfl (.inl rfl) rfl rfl (by exact qw_move rfl) ?_
    refine dg_w rfl rfl (.inl rfl) rfl rfl (by exact qw_indexAddr rfl rfl (by omega) (by omega)) ?_
    refine dg_r rfl rfl rfl (.inl rfl) rfl rfl (by exact qr_load1' rfl (mem_catF hma) hga) ?_
    refine dg_g rfl rfl (.inl rfl) rfl rfl (by exact ev_call0 rfl (.cons rfl (.cons rfl (.cons rfl (.cons rfl (.nil))))) (send_ca (n := 0) (hzv.mono (fun q hq => by rcases List.mem_append.1 hq with h | h; exact mem_cat (s := B) (by repeat (first | exact List.Mem.head _ | apply List.Mem.tail)) h; exact mem_catF (hL0 _ h))) (hyv.mono (fun q hq => by rcases List.mem_append.1 hq with h | h; exact mem_cat (s := B) (by repeat (first | exact List.Mem.head _ | apply List.Mem.tail)) h; exact mem_catF (hL0 _ h))) hn (by rw [goK_len]; exact hes) (hok k hklt))) ?_
    rintro _ _ ⟨zv2, yv2, B2, rfl, rfl, hz2, hy2⟩
    obtain ⟨pz2, cz2, rfl, hzz2⟩ := id hz2
    obtain ⟨py2, cy2, rfl, hyy2⟩ := id hy2
    refine dg_w rfl rfl (.inl rfl) rfl rfl (by exact qw_move rfl) ?_
    refine dg_w rfl rfl (.inl rfl) rfl rfl (by exact qw_extract rfl rfl) ?_
    refine dg_w rfl rfl (.inl rfl) rfl rfl (by exact qw_extract rfl rfl) ?_
    refine dg_g0 rfl rfl (.inl rfl) rfl (by exact ev_store rfl rfl (by first | exact CellsOf.agg | exact CellsOf.one rfl) (by repeat (first | exact List.Mem.head _ | apply List.Mem.tail | apply List.mem_append_right | assumption)) (by repeat (first | exact SetSeg.done | apply SetSeg.take | apply SetSeg.skip)) rfl rfl (by repeat (first | exact Upd.here | apply Upd.there | apply Upd.app)) (by first | exact Or.inl ⟨inferInstance, rfl⟩ | exact Or.inr inferInstance)) ?_
    rintro _ _ ⟨rfl, rfl⟩
    refine dg_w rfl rfl (.inl rfl) rfl rfl (by exact qw_assign rfl) ?_
    refine dg_nil ?_
    refine qg_then ?_
    refine cg_seq ?_
    refine cg_region ?_
    refine rg_q (.inl rfl) rfl rfl (by exact QW.qr (qw_move rfl)) ?_
    refine rg_q (.inl rfl) rfl rfl (by exact QW.qr (qw_neq_f rfl rfl (fun h => h rfl))) ?_
    refine rg_nil ?_
    refine qg_then ?_
    refine cg_false rfl ?_
    refine cg_skip ?_
    refine qg_block ?_
    refine qg_then ?_
    refine cg_region ?_
    refine rg_q (.inl rfl) rfl rfl (by exact QW.qr (qw_add_in rfl rfl (by unfold inK; omega))) ?_
    refine rg_q (.inl rfl) rfl rfl (by exact QW.qr (qw_move rfl)) ?_
    refine rg_nil ?_
    exact qg_round_sp _ _ _ ⟨k + 1, _, _, B2, by omega, hz2.mono (fun q hq => List.mem_append_left _ hq), hy2.mono (fun q hq => List.mem_append_left _ hq), rfl, rfl, rfl⟩ (by repeat (first | exact Sub.nil | refine Sub.cons rfl ?_ | refine Sub.cons (congrArg (fun z => some (Value.int IntKind.i64 z)) (by omega)) ?_)) (cat_sub (ls' := [[(b4, _)], [(b3, _)], B2, [(b2, _)]]) (ls := [B2, [(b4, _)], [(b3, _)], B, [(b2, _)]]) (by repeat (first | exact SubM.nil | refine SubM.cons (by repeat (first | exact Ins.here | apply Ins.there)) ?_))) (by omega)
  · intro hlt
    obtain rfl : k = edges.length := by omega
    refine rg_nil ?_
    refine qg_then ?_
    refine cg_seq ?_
    refine cg_false rfl ?_
    refine cg_exit ?_
    refine qg_then_exit ?_
    refine qg_then_exit ?_
    refine qg_block_here ?_
    refine qg_then ?_
    refine cg_seq ?_
    refine cg_region ?_
    refine rg_q (.inl rfl) rfl rfl (by exact qr_loadN rfl (by repeat (first | exact List.Mem.head _ | apply List.Mem.tail | apply List.mem_append_right | assumption)) (by repeat (first | exact SegL.done | apply SegL.take | apply SegL.skip))) ?_
    refine rg_e0 (.inl rfl) rfl (by exact ev_store rfl rfl (by first | exact CellsOf.agg | exact CellsOf.one rfl) (by repeat (first | exact List.Mem.head _ | apply List.Mem.tail | apply List.mem_append_right | assumption)) (by repeat (first | exact SetSeg.done | apply SetSeg.take | apply SetSeg.skip)) rfl rfl (by repeat (first | exact Upd.here | apply Upd.there | apply Upd.app)) (by first | exact Or.inl ⟨inferInstance, rfl⟩ | exact Or.inr inferInstance)) ?_
    rintro _ _ ⟨rfl, rfl⟩
    refine rg_q (.inl rfl) rfl rfl (by exact QW.qr (qw_assign rfl)) ?_
    refine rg_nil ?_
    refine qg_then ?_
    refine cg_ret ?_
    exact qg_end_sp (.inl rfl) _ (.cons (resCellN rfl (by repeat (first | exact List.Mem.head _ | apply List.Mem.tail | apply List.mem_append_right | assumption)) (by repeat (first | exact SegL.done | apply SegL.take | apply SegL.skip))) (.cons (.tmp rfl) (.nil))) _ (cat_sub (ls' := [B]) (ls := [[(b4, _)], [(b3, _)], B, [(b2, _)]]) (by repeat (first | exact SubM.nil | refine SubM.cons (by repeat (first | exact Ins.here | apply Ins.there)) ?_))) ⟨_, _, B, rfl, rfl, hzv, hyv⟩

theorem planGo_ca (spots : List (Int × Int)) (es : List Edge) (nodes edges am : List Int) (f : Int) (sv ev nv xv cv : Value) (O : Out) (L : List Blk) (hs : RdL L encSp 2 sv spots) (he : RdL L encE 8 ev es) (hN : RdL L encI 1 nv nodes) (hX : RdL L encI 1 xv edges) (hA : RdL L encU 1 cv am)
    (hn : spots.length ≤ 1000) (hes : es.length ≤ 1000) (hnl : nodes.length = edges.length + 1) (hal : am.length = edges.length) (hxl : edges.length ≤ 1000) (hck : checkF spots.length es = 0)
    (hok : ∀ k, k < edges.length → SendOk spots.length (goK es edges nodes am k) (gi edges k) (gi nodes k) (gi am k)) :
    CA Try.prog 16 [.agg #[nv, xv, cv, U f], .agg #[sv, ev]] O L fun v L' => ∃ zv yv B, v = .tuple #[.agg #[zv, yv], I 0] ∧ L' = B ++ L ∧ RdL (B ++ L) encSp 2 zv spots ∧ RdL (B ++ L) encE 8 yv (goK es edges nodes am edges.length) := by
  obtain ⟨pz, cz, rfl, _⟩ := id hs
  obtain ⟨pe, ce, rfl, _⟩ := id he
  obtain ⟨pn, cn, rfl, _⟩ := id hN
  obtain ⟨px, cx, rfl, _⟩ := id hX
  obtain ⟨pa, ca, rfl, _⟩ := id hA
  refine ca_enter Try.func16 rfl rfl ?_
  rw [Try.ntmps16]
  simp only [envOf]
  refine cg_seq ?_
  refine cg_region ?_
  refine rg_e (.inl rfl) rfl rfl (by exact ev_box rfl (by first | exact CellsOf.agg | exact CellsOf.one rfl)) ?_
  rintro _ _ ⟨b2, rfl, rfl⟩
  refine rg_e (.inl rfl) rfl rfl (by exact ev_box rfl (by first | exact CellsOf.agg | exact CellsOf.one rfl)) ?_
  rintro _ _ ⟨b3, rfl, rfl⟩
  refine rg_e (.inl rfl) rfl rfl (by exact ev_alloc (by first | exact CellsOf.agg | exact CellsOf.one rfl)) ?_
  rintro _ _ ⟨b4, rfl, rfl⟩
  refine rg_q (.inl rfl) rfl rfl (by exact QW.qr (qw_assign rfl)) ?_
  refine rg_nil ?_
  refine qg_then ?_
  refine cg_seq ?_
  refine cg_region ?_
  refine rg_q (.inl rfl) rfl rfl (by exact QW.qr (qw_fieldAddr rfl)) ?_
  refine rg_q (.inl rfl) rfl rfl (by exact qr_load1 rfl (by repeat (first | exact List.Mem.head _ | apply List.Mem.tail | apply List.mem_append_right | assumption)) rfl) ?_
  refine rg_q (.inl rfl) rfl rfl (by exact QW.qr (qw_fieldAddr rfl)) ?_
  refine rg_q (.inl rfl) rfl rfl (by exact qr_load1 rfl (by repeat (first | exact List.Mem.head _ | apply List.Mem.tail | apply List.mem_append_right | assumption)) rfl) ?_
  refine rg_q (.inl rfl) rfl rfl (by exact QW.qr (qw_fieldAddr rfl)) ?_
  refine rg_q (.inl rfl) rfl rfl (by exact qr_load1 rfl (by repeat (first | exact List.Mem.head _ | apply List.Mem.tail | apply List.mem_append_right | assumption)) rfl) ?_
  refine rg_q (.inl rfl) rfl rfl (by exact QW.qr (qw_build (.cons rfl (.cons rfl (.cons rfl (.nil)))) rfl (.cons rfl (by first | exact CellsOf.agg | exact CellsOf.one rfl) (by repeat (first | exact SetSeg.done | apply SetSeg.take | apply SetSeg.skip)) (by rfl) (by rfl) (.cons rfl (by first | exact CellsOf.agg | exact CellsOf.one rfl) (by repeat (first | exact SetSeg.done | apply SetSeg.take | apply SetSeg.skip)) (by rfl) (by rfl) (.cons rfl (by first | exact CellsOf.agg | exact CellsOf.one rfl) (by repeat (first | exact SetSeg.done | apply SetSeg.take | apply SetSeg.skip)) (by rfl) (by rfl) (.nil)))))) ?_
  refine rg_q (.inl rfl) rfl rfl (by exact qr_loadN rfl (by repeat (first | exact List.Mem.head _ | apply List.Mem.tail | apply List.mem_append_right | assumption)) (by repeat (first | exact SegL.done | apply SegL.take | apply SegL.skip))) ?_
  refine rg_e (.inl rfl) rfl rfl (by exact ev_call0 rfl (.cons rfl (.cons rfl (.nil))) (go_ca spots es nodes edges am _ _ _ _ _ O L _ (fun q hq => by repeat (first | exact hq | apply List.mem_append_right | apply List.mem_cons_of_mem)) hs he (hN.mono (fun q hq => by repeat (first | exact hq | apply List.mem_append_right | apply List.mem_cons_of_mem))) (hX.mono (fun q hq => by repeat (first | exact hq | apply List.mem_append_right | apply List.mem_cons_of_mem))) (hA.mono (fun q hq => by repeat (first | exact hq | apply List.mem_append_right | apply List.mem_cons_of_mem))) hn hes hnl hal hxl hck hok)) ?_
  rintro _ _ ⟨zv, yv, B, rfl, rfl, hz, hy⟩
  obtain ⟨pz2, cz2, rfl, hzz2⟩ := id hz
  obtain ⟨py2, cy2, rfl, hyy2⟩ := id hy
  refine rg_q (.inl rfl) rfl rfl (by exact QW.qr (qw_extract rfl rfl)) ?_
  refine rg_q (.inl rfl) rfl rfl (by exact QW.qr (qw_extract rfl rfl)) ?_
  refine rg_e0 (.inl rfl) rfl (by exact ev_store rfl rfl (by first | exact CellsOf.agg | exact CellsOf.one rfl) (by repeat (first | exact List.Mem.head _ | apply List.Mem.tail | apply List.mem_append_right | assumption)) (by repeat (first | exact SetSeg.done | apply SetSeg.take | apply SetSeg.skip)) rfl rfl (by repeat (first | exact Upd.here | apply Upd.there | apply Upd.app)) (by first | exact Or.inl ⟨inferInstance, rfl⟩ | exact Or.inr inferInstance)) ?_
  rintro _ _ ⟨rfl, rfl⟩
  refine rg_q (.inl rfl) rfl rfl (by exact QW.qr (qw_assign rfl)) ?_
  refine rg_nil ?_
  refine qg_then ?_
  refine cg_ret ?_
  exact qg_end (.inl rfl) _ (.cons (resCellN rfl (by repeat (first | exact List.Mem.head _ | apply List.Mem.tail | apply List.mem_append_right | assumption)) (by repeat (first | exact SegL.done | apply SegL.take | apply SegL.skip))) (.cons (.tmp rfl) (.nil))) (B ++ L) (List.Sublist.append_left (List.sublist_append_right [_, _, _] _) _) ⟨_, _, B, rfl, rfl, hz, hy⟩

end Go.Proofs.Ytjimpciiaceleaa