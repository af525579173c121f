/-
  THE WALK of logbook's Compact: a new life on the other slab. Conditions: sizes.
-/
import Derived.Test.YthmicniimofagaaGreatB7
namespace Go.Proofs.YthmicniimofagaaGreat
open Fw
open Go.Proofs (encStr)
set_option linter.unusedVariables false
set_option maxRecDepth 100000
set_option maxHeartbeats 1000000

/-- What a new life lays. -/
def entriesF (has : List (Bytes × Bytes)) (ns : List Bytes) : Bytes := ns.flatMap fun n => recF 2 n ((getG has n).getD [])
def compactB (l : Lb) : Bytes := recF 1 [] (numF (l.life + 1) 4) ++ entriesF l.has (namesOf l.has) ++ recF 4 [] []
def opK (p : Bytes) : Nat → Slab → Slab × Int
  | 0, s => eraseS s
  | 1, s => appendS s p
  | _, s => syncS s
def runK (p : Bytes) (s : Slab) : Nat → Slab
  | 0 => s
  | k + 1 => (opK p k (runK p s k)).1
def compactL (l : Lb) (so : Slab) : Lb × Slab × Int :=
  if l.dead ≠ 0 then (l, so, l.dead) else if l.life = 4294967295 then (l, so, 8)
  else if (opK (compactB l) 0 so).2 ≠ 0 then (failL l (opK (compactB l) 0 so).2, runK (compactB l) so 1, (opK (compactB l) 0 so).2)
  else if (opK (compactB l) 1 (runK (compactB l) so 1)).2 ≠ 0 then (failL l (opK (compactB l) 1 (runK (compactB l) so 1)).2, runK (compactB l) so 2, (opK (compactB l) 1 (runK (compactB l) so 1)).2)
  else if (opK (compactB l) 2 (runK (compactB l) so 2)).2 ≠ 0 then (failL l (opK (compactB l) 2 (runK (compactB l) so 2)).2, runK (compactB l) so 3, (opK (compactB l) 2 (runK (compactB l) so 2)).2)
  else (⟨1 - l.at_, l.life + 1, l.has, l.dead⟩, runK (compactB l) so 3, 0)
theorem compact_fail {l : Lb} {so : Slab} (hd : ¬ l.dead ≠ 0) (hl : ¬ l.life = 4294967295) {k : Nat} (hk : k < 3) (hall : ∀ j, j < k → (opK (compactB l) j (runK (compactB l) so j)).2 = 0) (he : (opK (compactB l) k (runK (compactB l) so k)).2 ≠ 0) :
    compactL l so = (failL l (opK (compactB l) k (runK (compactB l) so k)).2, runK (compactB l) so (k + 1), (opK (compactB l) k (runK (compactB l) so k)).2) := by
  have h012 : k = 0 ∨ k = 1 ∨ k = 2 := by omega
  rcases h012 with rfl | rfl | rfl
  · rw [compactL, if_neg hd, if_neg hl, if_pos (show (opK (compactB l) 0 so).2 ≠ 0 from he)]; rfl
  · rw [compactL, if_neg hd, if_neg hl, if_neg (fun h => h (hall 0 (by omega))), if_pos he]
  · rw [compactL, if_neg hd, if_neg hl, if_neg (fun h => h (hall 0 (by omega))), if_neg (fun h => h (hall 1 (by omega))), if_pos he]
theorem compact_ok {l : Lb} {so : Slab} (hd : ¬ l.dead ≠ 0) (hl : ¬ l.life = 4294967295) (hall : ∀ j, j < 3 → (opK (compactB l) j (runK (compactB l) so j)).2 = 0) :
    compactL l so = (⟨1 - l.at_, l.life + 1, l.has, l.dead⟩, runK (compactB l) so 3, 0) := by
  rw [compactL, if_neg hd, if_neg hl, if_neg (fun h => h (hall 0 (by omega))), if_neg (fun h => h (hall 1 (by omega))), if_neg (fun h => h (hall 2 (by omega)))]
def sizeS (s : Slab) : Nat := s.sure.length + s.loose.length
theorem eraseS_size (s : Slab) : sizeS (eraseS s).1 ≤ sizeS s := by
  have h := stepS_same s
  unfold eraseS sizeS
  split
  · exact Nat.le_refl _
  · split
    · rw [h.1, h.2]; exact Nat.le_refl _
    · simp
theorem appendS_size (s : Slab) (p : Bytes) : sizeS (appendS s p).1 ≤ sizeS s + p.length := by
  have h := stepS_same s
  unfold appendS sizeS
  split
  · show s.sure.length + s.loose.length ≤ _; omega
  · split
    · show s.sure.length + s.loose.length ≤ _; omega
    · split
      · rw [h.1, h.2]; omega
      · simp only [List.length_append, h.1, h.2]; omega
theorem runK_size (p : Bytes) (s : Slab) : ∀ k, k < 3 → sizeS (runK p s k) ≤ sizeS s + (if k = 2 then p.length else 0)
  | 0, _ => by simp [runK]
  | 1, _ => by have := eraseS_size s; simp [runK, opK]; omega
  | 2, _ => by
    have h1 := eraseS_size s
    have h2 := appendS_size (eraseS s).1 p
    simp [runK, opK]; omega
/-- The three functions, as values. -/
def fvK (bo b7 b4 : Nat) : Nat → Value
  | 0 => .func (.func 170) #[PT bo] #[]
  | 1 => .func (.func 171) #[] #[PT b7, PT b4]
  | _ => .func (.func 168) #[PT bo] #[]

theorem compact1_ca (bo b7 b4 : Nat) (s : Slab) (Ko : List Blk) (p : Bytes) (pv : Value) (O : Out) (F : List Blk) (hs : SlabAt bo s Ko) (h7 : (b7, Obj.cells [PT bo].toArray 88 (0, 0)) ∈ F) (h4 : (b4, Obj.cells [pv].toArray 39 (0, 0)) ∈ F) (hp : RdL F encB 1 pv p) (hsz : sizeS s ≤ 300000) (hpl : p.length ≤ 600000) :
    CA Tryz.prog 171 [PT b7, PT b4] O (Ko ++ F) fun v L' => v = I (appendS s p).2 ∧ ∃ Ko2, L' = Ko2 ++ F ∧ SlabAt bo (appendS s p).1 Ko2 := by
  unfold sizeS at hsz
  refine ca_enter Tryz.func171 rfl rfl ?_
  rw [Tryz.ntmps171]
  simp only [envOf]
  refine cg_seq ?_
  refine cg_region ?_
  refine rg_q (.inl rfl) rfl rfl (by exact QW.qr (qw_assign rfl)) ?_
  refine rg_nil ?_
  refine qg_then ?_
  refine cg_seq ?_
  refine cg_region ?_
  refine rg_q (.inl rfl) rfl rfl (by exact qr_load1 rfl (List.mem_append_right _ h7) rfl) ?_
  refine rg_q (.inl rfl) rfl rfl (by exact qr_load1 rfl (List.mem_append_right _ h4) rfl) ?_
  refine rg_e (.inl rfl) rfl rfl (by exact ev_call0 rfl (.cons rfl (.cons rfl (.nil))) (append_ca bo s Ko p pv O F hs hp hsz hpl)) ?_
  rintro _ _ ⟨rfl, Ko2, rfl, hs2⟩
  refine rg_q (.inl rfl) rfl rfl (by exact QW.qr (qw_assign rfl)) ?_
  refine rg_nil ?_
  refine qg_then ?_
  refine cg_ret ?_
  exact qg_end (.inl rfl) _ (.cons (.tmp rfl) (.nil)) _ (List.Sublist.refl _) ⟨rfl, Ko2, rfl, hs2⟩

theorem onAt_flip {l : Lb} {ba bo b0 b1 : Nat} {a b : Int} {h : List (Bytes × Bytes)} (ho : onAt l ba bo b0 b1) : onAt ⟨1 - l.at_, a, h, b⟩ bo ba b0 b1 := by
  rcases ho with ⟨h, rfl, rfl⟩ | ⟨h, rfl, rfl⟩
  · exact .inr ⟨by show 1 - l.at_ = 1; omega, rfl, rfl⟩
  · exact .inl ⟨by show 1 - l.at_ = 0; omega, rfl, rfl⟩
theorem op_ev {n : Nat} {E : Env} {dst : Option Tmp} {ty : TypeId} {pos : String} {after : Array _root_.Go.Edge} {g : Option (Nat × Bool)} {at_ : Array TypeId} {x : Operand} (bo b7 b4 k : Nat) (hk : k < 3) (s : Slab) (Ko : List Blk) (p : Bytes) (pv : Value) (O : Out) (F : List Blk) (hx : ev E x = some (fvK bo b7 b4 k)) (hs : SlabAt bo s Ko)
    (h7 : (b7, Obj.cells [PT bo].toArray 88 (0, 0)) ∈ F) (h4 : (b4, Obj.cells [pv].toArray 39 (0, 0)) ∈ F) (hp : RdL F encB 1 pv p) (hsz : sizeS s ≤ 300000 ∨ k = 2 ∧ sizeS s ≤ 900000) (hpl : p.length ≤ 600000) :
    EV Tryz.prog ⟨dst, .call { callee := .value x, args := #[], argTypes := at_ }, ty, pos, after, g⟩ n E O (Ko ++ F) fun v L' => v = I (opK p k s).2 ∧ ∃ Ko2, L' = Ko2 ++ F ∧ SlabAt bo (opK p k s).1 Ko2 := by
  have h012 : k = 0 ∨ k = 1 ∨ k = 2 := by omega
  rcases h012 with rfl | rfl | rfl
  · exact ev_call (first := [PT bo]) (captured := []) (args := []) (vs := []) hx .nil (erase_ca bo s Ko O F hs)
  · exact ev_call (first := []) (captured := [PT b7, PT b4]) (args := []) (vs := []) hx .nil (compact1_ca bo b7 b4 s Ko p pv O F hs h7 h4 hp (by omega) hpl)
  · exact ev_call (first := [PT bo]) (captured := []) (args := []) (vs := []) hx .nil (sync_ca bo s Ko O F hs (by unfold sizeS at hsz; omega))
theorem fvK_get (bo b7 b4 k : Nat) (hk : k < 3) : [fvK bo b7 b4 0, fvK bo b7 b4 1, fvK bo b7 b4 2][0 + (k : Int).toNat * 1]? = some (fvK bo b7 b4 k) := by
  have h012 : k = 0 ∨ k = 1 ∨ k = 2 := by omega
  rcases h012 with rfl | rfl | rfl <;> rfl
theorem entries_step {has : List (Bytes × Bytes)} {ns : List Bytes} {k : Nat} (hk : k < ns.length) : entriesF has (ns.take (k + 1)) = entriesF has (ns.take k) ++ recF 2 ns[k] ((getG has ns[k]).getD []) := by
  unfold entriesF
  rw [List.take_succ_eq_append_getElem hk, List.flatMap_append]
  simp
theorem entries_le (has : List (Bytes × Bytes)) (ns : List Bytes) (k : Nat) : (entriesF has (ns.take k)).length ≤ (entriesF has ns).length := by
  unfold entriesF
  conv => rhs; rw [← List.take_append_drop k ns, List.flatMap_append, List.length_append]
  omega

theorem compact_ca (bl ba bo : Nat) (l : Lb) (so : Slab) (K Ko : List Blk) (O : Out) (F : List Blk) (hl : LbAt bl ba bo l K) (hs : SlabAt bo so Ko) (hsz : sizeS so ≤ 300000) (hlife : isU32 l.life) (hcnt : l.has.length ≤ 1000000) (hlen : ∀ t ∈ l.has, t.1.length ≤ 100000 ∧ t.2.length ≤ 600000) (hbytes : (compactB l).length ≤ 600000) :
    CA Tryz.prog 106 [PT bl] O (cat [K, Ko] F) fun v L' => v = I (compactL l so).2.2 ∧ (((compactL l so).2.2 ≠ 0 ∧ ∃ K2 Ko2, L' = cat [K2, Ko2] F ∧ LbAt bl ba bo (compactL l so).1 K2 ∧ SlabAt bo (compactL l so).2.1 Ko2) ∨
      ((compactL l so).2.2 = 0 ∧ ∃ K2 Ko2, L' = cat [K2, Ko2] F ∧ LbAt bl bo ba (compactL l so).1 K2 ∧ SlabAt bo (compactL l so).2.1 Ko2)) := by
  obtain ⟨b0, b1, bm, es, c, ms, Bv, hon, hms, hva, hpl, rfl⟩ := id hl
  rw [lb_open]
  obtain ⟨hga, hgo, ha0, ha2⟩ := onAt_get (bm := bm) hon
  have hsz2 : ms.length ≤ 1000000 := by
    have := congrArg List.length (plain_keys ms)
    rw [List.length_map, List.length_map, hpl] at this
    omega
  have hlen2 : ∀ t ∈ ms, t.1.length ≤ 1000000 := by
    intro t ht
    have := hlen (t.1, t.2.1) (by rw [← hpl]; exact List.mem_map.2 ⟨t, ht, rfl⟩)
    simp only at this
    omega
  have hnames : namesOf l.has = namesOf ms := by rw [← hpl, plain_names]
  have hnl := namesOf_len ms
  unfold isU32 at hlife
  refine ca_enter Tryz.func106 rfl rfl ?_
  rw [Tryz.ntmps106]
  simp only [envOf]
  refine cg_seq ?_
  refine cg_region ?_
  refine rg_q (.inl rfl) rfl rfl (by exact QW.qr (qw_assign rfl)) ?_
  refine rg_nil ?_
  refine qg_then ?_
  refine cg_seq ?_
  refine cg_seq ?_
  refine cg_region ?_
  refine rg_q (.inl rfl) rfl rfl (by exact QW.qr (qw_move rfl)) ?_
  refine rg_e (.inl rfl) rfl rfl (by exact ev_call0 rfl (.cons rfl (.nil)) (up_ca bl b0 b1 bm l O _ (List.Mem.head _))) ?_
  rintro _ _ ⟨rfl, rfl⟩
  refine rg_q (.inl rfl) rfl rfl (by exact QW.qr (qw_assign rfl)) ?_
  refine rg_nil ?_
  refine qg_then ?_
  refine cg_seq ?_
  refine cg_region ?_
  refine rg_q (.inl rfl) rfl rfl (by exact QW.qr (qw_move rfl)) ?_
  refine rg_split (.inl rfl) rfl rfl (by exact qc_neq rfl rfl) ?_ ?_
  · intro hd
    have hfin : compactL l so = (l, so, l.dead) := by rw [compactL, if_pos hd]
    have h0 := hd
    refine rg_nil ?_
    refine qg_then ?_
    refine cg_true rfl ?_
    refine cg_seq ?_
    refine cg_region ?_
    refine rg_q (.inl rfl) rfl rfl (by exact QW.qr (qw_move rfl)) ?_
    refine rg_q (.inl rfl) rfl rfl (by exact QW.qr (qw_assign rfl)) ?_
    refine rg_nil ?_
    refine qg_then ?_
    refine cg_ret ?_
    refine qg_then_ret ?_
    exact qg_end (.inl rfl) _ (.cons (.tmp rfl) (.nil)) _ (List.Sublist.refl _) ⟨by rw [hfin] <;> rfl, .inl ⟨by rw [hfin]; exact h0, _, Ko, rfl, by rw [hfin]; exact hl, by rw [hfin]; exact hs⟩⟩
  · intro hd
    refine rg_nil ?_
    refine qg_then ?_
    refine cg_false rfl ?_
    refine cg_skip ?_
    refine qg_then ?_
    refine cg_seq ?_
    refine cg_seq ?_
    unfold lbBlk PT
    refine cg_region ?_
    refine rg_q (.inl rfl) rfl rfl (by exact QW.qr (qw_move rfl)) ?_
    refine rg_q (.inl rfl) rfl rfl (by exact QW.qr (qw_nilCheck rfl)) ?_
    refine rg_q (.inl rfl) rfl rfl (by exact QW.qr (qw_fieldAddr rfl)) ?_
    refine rg_q (.inl rfl) rfl rfl (by exact qr_load1 rfl (by repeat (first | exact List.Mem.head _ | apply List.Mem.tail | apply List.mem_append_right | assumption)) rfl) ?_
    refine rg_split (.inl rfl) rfl rfl (by exact qc_eql rfl rfl) ?_ ?_
    · intro hm
      have hfin : compactL l so = (l, so, 8) := by rw [compactL, if_neg hd, if_pos hm]
      have h0 : (8 : Int) ≠ 0 := by decide
      refine rg_nil ?_
      refine qg_then ?_
      refine cg_true rfl ?_
      refine cg_seq ?_
      refine cg_region ?_
      refine rg_q (.inl rfl) rfl rfl (by exact QW.qr (qw_assign rfl)) ?_
      refine rg_nil ?_
      refine qg_then ?_
      refine cg_ret ?_
      refine qg_then_ret ?_
      exact qg_end (.inl rfl) _ (.cons (.tmp rfl) (.nil)) _ (List.Sublist.refl _) ⟨by rw [hfin] <;> rfl, .inl ⟨by rw [hfin]; exact h0, _, Ko, rfl, by rw [hfin]; exact hl, by rw [hfin]; exact hs⟩⟩
    · intro hm
      refine rg_nil ?_
      refine qg_then ?_
      refine cg_false rfl ?_
      refine cg_skip ?_
      refine qg_then ?_
      refine cg_seq ?_
      refine cg_region ?_
      refine rg_e (.inl rfl) rfl rfl (by exact ev_buildSlice (.nil) rfl (by first | exact CellsOf.agg | exact CellsOf.one rfl) (by rfl) (.nil)) ?_
      rintro _ _ ⟨b21, rfl, rfl⟩
      rw [rep8]
      refine rg_q (.inl rfl) rfl rfl (by exact QW.qr (qw_move rfl)) ?_
      refine rg_q (.inl rfl) rfl rfl (by exact QW.qr (qw_nilCheck rfl)) ?_
      refine rg_q (.inl rfl) rfl rfl (by exact QW.qr (qw_fieldAddr rfl)) ?_
      refine rg_q (.inl rfl) rfl rfl (by exact qr_load1 rfl (by repeat (first | exact List.Mem.head _ | apply List.Mem.tail | apply List.mem_append_right | assumption)) rfl) ?_
      refine rg_q (.inl rfl) rfl rfl (by exact QW.qr (qw_add_in rfl rfl (by unfold inK; omega))) ?_
      refine rg_e (.inl rfl) rfl rfl (by exact ev_buildSlice (.cons rfl (.nil)) rfl (by first | exact CellsOf.agg | exact CellsOf.one rfl) (by rfl) (.cons rfl (by first | exact CellsOf.agg | exact CellsOf.one rfl) (by repeat (first | exact SetSeg.done | apply SetSeg.take | apply SetSeg.skip)) (by rfl) (by rfl) (.nil))) ?_
      rintro _ _ ⟨b27, rfl, rfl⟩
      rw [show ([] : List Value).append (rep 0 [Value.int .u32 0]) = [] from rfl]
      refine rg_e (.inl rfl) rfl rfl (by exact ev_call0 rfl (.cons rfl (.cons rfl (.nil))) ((four_ca [] _ _ [(b21, _)] [l.life + 1] (fun x hx => by have : x = l.life + 1 := (by simpa using hx); subst this; exact ⟨by omega, by omega⟩) (by simp) (by simp) (own0B b21) O ((b27, _) :: cat [[lbBlk bl b0 b1 bm l], [(bm, .map es c)], Bv, Ko] F) (rd32 b27 _ _ (List.Mem.head _))).pre (fun w h => h.perm (cat_perm (ls' := [[(b21, _)], [(b27, _)], [lbBlk bl b0 b1 bm l], [(bm, .map es c)], Bv, Ko]) (ls := [[(b27, _)], [(b21, _)], [lbBlk bl b0 b1 bm l], [(bm, .map es c)], Bv, Ko]) (by repeat (first | exact PermM.nil | refine PermM.cons (by repeat (first | exact Ins.here | apply Ins.there)) ?_)))))) ?_
      rintro ov1 _ ⟨B1, ho1, rfl⟩
      rw [show ([] : Bytes) ++ [l.life + 1].flatMap (numF · 4) = numF (l.life + 1) 4 from by simp] at ho1
      refine rg_e (.inl rfl) rfl rfl (by exact ev_call0 rfl (.cons rfl (.cons rfl (.cons rfl (.nil)))) (record_ca 1 [] (numF (l.life + 1) 4) _ (by decide) (by rw [numF_len]; decide) O _ ((ho1.rd (fun _ => rfl) (by decide)).mono (fun q hq => List.mem_append_left _ hq)))) ?_
      rintro rv _ ⟨B2, ho2, rfl⟩
      obtain ⟨pr, cr, rfl, _⟩ := id (ho2.rd (fun _ => rfl) (by decide))
      refine rg_e (.inl rfl) rfl rfl (by exact ev_alloc (by first | exact CellsOf.agg | exact CellsOf.one rfl)) ?_
      rintro _ _ ⟨b4, rfl, rfl⟩
      refine rg_e0 (.inl rfl) rfl (by exact ev_store rfl rfl (by first | exact CellsOf.agg | exact CellsOf.one rfl) (by repeat (first | exact List.Mem.head _ | apply List.Mem.tail | apply List.mem_append_right | assumption)) (by repeat (first | exact SetSeg.done | apply SetSeg.take | apply SetSeg.skip)) rfl rfl (by repeat (first | exact Upd.here | apply Upd.there | apply Upd.app)) (by first | exact Or.inl ⟨inferInstance, rfl⟩ | exact Or.inr inferInstance)) ?_
      rintro _ _ ⟨rfl, rfl⟩
      refine rg_nil ?_
      refine qg_then ?_
      refine cg_seq ?_
      refine cg_seq ?_
      refine cg_region ?_
      refine rg_q (.inl rfl) rfl rfl (by exact QW.qr (qw_move rfl)) ?_
      refine rg_q (.inl rfl) rfl rfl (by exact QW.qr (qw_nilCheck rfl)) ?_
      refine rg_q (.inl rfl) rfl rfl (by exact QW.qr (qw_fieldAddr rfl)) ?_
      refine rg_q (.inl rfl) rfl rfl (by exact qr_load1 rfl (by repeat (first | exact List.Mem.head _ | apply List.Mem.tail | apply List.mem_append_right | assumption)) rfl) ?_
      refine rg_e (.inl rfl) rfl rfl (by exact ev_call0 rfl (.cons rfl (.nil)) (keys_ca bm O _)) ?_
      rintro _ _ ⟨bk, rfl, rfl⟩
      refine rg_e (.inl rfl) rfl rfl (by exact ev_call0 rfl (.cons rfl (.nil)) (sorted_ca (bk := bk) (bm := bm) (val := vOf) (ms := ms) O _ (List.Mem.head _) (by repeat (first | exact List.Mem.head _ | apply List.Mem.tail | apply List.mem_append_right | assumption)) hms hsz2 hlen2)) ?_
      rintro nv _ ⟨Bn, hnn, rfl⟩
      obtain ⟨pn, cn, rfl, _, _, _, hRn⟩ := id (hnn.rd (fun _ => rfl) (by decide))
      have hcb : (compactB l).length = (recF 1 [] (numF (l.life + 1) 4)).length + (entriesF l.has (namesOf ms)).length + (recF 4 [] []).length := by unfold compactB; rw [hnames, List.length_append, List.length_append]
      refine rg_q (.inl rfl) rfl rfl (by exact QW.qr (qw_len_slice (t := 155) (.cons rfl (.nil)) rfl)) ?_
      refine rg_q (.inl rfl) rfl rfl (by exact QW.qr (qw_move rfl)) ?_
      refine rg_nil ?_
      refine qg_then ?_
      refine cg_block ?_
      refine cg_loop (fun E' L' m => ∃ (k : Nat) (rv : Value) (Br : List Blk), k ≤ (namesOf ms).length ∧ OwnL 5 encB 1 rv (recF 1 [] (numF (l.life + 1) 4) ++ entriesF l.has ((namesOf ms).take k)) Br ∧ E' = [(0, PT bl), (4, PT b4), (35, .slice pn (namesOf ms).length cn), (36, .int .i64 (namesOf ms).length), (37, .int .i64 k)] ∧
        L' = cat [[(b4, .cells [rv].toArray 39 (0, 0))], Br, Bn, [(bk, .cells #[.map (some bm)] 243 (0, 0))], B1, [(b27, .cells [U32 (l.life + 1)].toArray 23 (0, 0))], [lbBlk bl b0 b1 bm l], [(bm, .map es c)], Bv, Ko] F ∧ m = (namesOf ms).length - k)
        _ _ _ ⟨0, _, B2, by omega, by simpa [entriesF] using ho2, rfl, rfl, rfl⟩ (by repeat (first | exact Sub.nil | refine Sub.cons rfl ?_ | refine Sub.cons (congrArg (fun z => some (Value.int IntKind.i64 z)) (by omega)) ?_)) (cat_perm (ls' := [[(b4, _)], B2, Bn, [(bk, _)], B1, [(b27, _)], [(bl, _)], [(bm, _)], Bv, Ko]) (ls := [Bn, [(bk, _)], [(b4, _)], B2, B1, [(b27, _)], [(bl, _)], [(bm, _)], Bv, Ko]) (by repeat (first | exact PermM.nil | refine PermM.cons (by repeat (first | exact Ins.here | apply Ins.there)) ?_))) ?_
      clear ho2
      rintro _ _ _ ⟨k, rv, Br, hk, hor, rfl, rfl, rfl⟩
      obtain ⟨pr, cr, rfl, _⟩ := id (hor.rd (fun _ => rfl) (by decide))
      unfold lbBlk PT
      have hel := entries_le l.has (namesOf ms) k
      refine cg_seq ?_
      refine cg_region ?_
      refine rg_split (.inl rfl) rfl rfl (by exact qc_lss rfl rfl) ?_ ?_
      · intro hlt
        have hklt : k < (namesOf ms).length := by omega
        obtain ⟨bN, oN, AN, tN, fN, rfl, hmN, hsN⟩ := hRn (by omega)
        have hg : AN[oN + (k : Int).toNat * 1]? = some (encStr (namesOf ms)[k]) := (hsN.elem (enc := encN) (k := 1) (fun _ => rfl) hklt).get (i := 0) rfl
        obtain ⟨g, hgs⟩ : ∃ g, getG ms (namesOf ms)[k] = some g := by
          cases h : getG ms (namesOf ms)[k] with
          | none => exact absurd ((namesOf_perm ms).mem_iff.1 (List.getElem_mem hklt)) (getG_none.1 h)
          | some g => exact ⟨g, rfl⟩
        have hgn : (getG l.has (namesOf ms)[k]).getD [] = g.1 := by rw [← hpl, plain_get, hgs]; rfl
        have hmem := (getG_some hms.nd).1 hgs
        have hlens := hlen ((namesOf ms)[k], g.1) (by rw [← hpl]; exact List.mem_map.2 ⟨_, hmem, rfl⟩)
        simp only at hlens
        have hstep := congrArg List.length (entries_step (has := l.has) hklt)
        rw [hgn, List.length_append] at hstep
        have hel2 := entries_le l.has (namesOf ms) (k + 1)
        refine rg_nil ?_
        refine qg_then ?_
        refine cg_seq ?_
        refine cg_true rfl ?_
        refine cg_skip ?_
        refine qg_then ?_
        refine cg_seq ?_
        refine cg_block ?_
        refine cg_seq ?_
        refine cg_region ?_
        refine rg_q (.inl rfl) rfl rfl (by exact QW.qr (qw_indexAddr rfl rfl (by omega) (by omega))) ?_
        refine rg_q (.inl rfl) rfl rfl (by exact qr_load1' rfl (mem_cat (s := Bn) (by repeat (first | exact List.Mem.head _ | apply List.Mem.tail)) hmN) hg) ?_
        refine rg_q (.inl rfl) rfl rfl (by exact QW.qr (qw_assign rfl)) ?_
        refine rg_nil ?_
        refine qg_then ?_
        refine cg_draw follows (.op 0 false (.op 1 false (.op 2 false (.op 3 false (.op 4 false (.op 5 false (.op 6 false (.op 7 false (.op 8 true (.op 9 false (.op 10 false .done))))))))))) _ (by kernel_rfl) (SubP.of (List.Sublist.refl _)) ?_
        refine dg_r rfl rfl rfl (.inl rfl) rfl rfl (by exact qr_load1 rfl (by repeat (first | exact List.Mem.head _ | apply List.Mem.tail | apply List.mem_append_right | assumption)) rfl) ?_
        refine dg_w rfl rfl (.inl rfl) rfl rfl (by exact qw_move rfl) ?_
        refine dg_w rfl rfl (.inl rfl) rfl rfl (by exact qw_move rfl) ?_
        refine dg_w rfl rfl (.inl rfl) rfl rfl (by exact qw_nilCheck rfl) ?_
        refine dg_w rfl rfl (.inl rfl) rfl rfl (by exact qw_fieldAddr rfl) ?_
        refine dg_r rfl rfl rfl (.inl rfl) rfl rfl (by exact qr_load1 rfl (by repeat (first | exact List.Mem.head _ | apply List.Mem.tail | apply List.mem_append_right | assumption)) rfl) ?_
        refine dg_w rfl rfl (.inl rfl) rfl rfl (by exact qw_move rfl) ?_
        refine dg_r rfl rfl rfl (.inl rfl) rfl rfl (by exact qr_val (qr_lookupS (ms := ms) rfl rfl (by repeat (first | exact List.Mem.head _ | apply List.Mem.tail | apply List.mem_append_right | assumption)) hms) (v2 := vOf g) (by rw [hgs]; rfl)) ?_
        refine dg_e rfl rfl (.inl rfl) rfl rfl (by exact ev_call0 rfl (.cons rfl (.cons rfl (.cons rfl (.nil)))) (record_ca 2 _ g.1 _ hlens.1 hlens.2 O _ ((hva _ hmem).mono (fun q hq => mem_cat (s := Bv) (by repeat (first | exact List.Mem.head _ | apply List.Mem.tail)) hq)))) ?_
        rintro ev2 _ ⟨Be, hoe, rfl⟩
        refine ⟨(SubP.of (by repeat (first | exact List.Sublist.refl _ | exact List.nil_sublist _ | exact List.sublist_append_right _ _ | apply List.Sublist.cons_cons | apply List.Sublist.cons | refine List.Sublist.trans ?_ (List.sublist_append_right _ _)))), ?_⟩
        refine dg_g rfl rfl (.inl rfl) rfl rfl (by exact ev_appendL (ys := recF 2 (namesOf ms)[k] g.1) (T := 39) (T2 := 39) (.cons rfl (.cons rfl .nil)) rfl rfl hor (R := cat [Be, [(b4, _)], Bn, [(bk, _)], B1, [(b27, _)], [(bl, _)], [(bm, _)], Bv, Ko] F) (cat_perm (ls' := [Br, Be, [(b4, _)], Bn, [(bk, _)], B1, [(b27, _)], [(bl, _)], [(bm, _)], Bv, Ko]) (ls := [Be, [(b4, _)], Br, Bn, [(bk, _)], B1, [(b27, _)], [(bl, _)], [(bm, _)], Bv, Ko]) (by repeat (first | exact PermM.nil | refine PermM.cons (by repeat (first | exact Ins.here | apply Ins.there)) ?_))) ((hoe.rd (fun _ => rfl) (by decide)).mono (fun q hq => List.mem_append_left _ hq)).src (fun _ => rfl) encB_one (by rw [List.length_append]; omega) rfl rfl rfl rfl) ?_
        rintro rv2 _ ⟨Br2, hor2, rfl⟩
        obtain ⟨pr2, cr2, rfl, _⟩ := id (hor2.rd (fun _ => rfl) (by decide))
        refine dg_g0 rfl rfl (.inl rfl) rfl (by exact ev_store rfl rfl (by first | exact CellsOf.agg | exact CellsOf.one rfl) (by repeat (first | exact List.Mem.head _ | apply List.Mem.tail | apply List.mem_append_right | assumption)) (by repeat (first | exact SetSeg.done | apply SetSeg.take | apply SetSeg.skip)) rfl rfl (by repeat (first | exact Upd.here | apply Upd.there | apply Upd.app)) (by first | exact Or.inl ⟨inferInstance, rfl⟩ | exact Or.inr inferInstance)) ?_
        rintro _ _ ⟨rfl, rfl⟩
        refine dg_nil ?_
        refine qg_block ?_
        refine qg_then ?_
        refine cg_region ?_
        refine rg_q (.inl rfl) rfl rfl (by exact QW.qr (qw_add_in rfl rfl (by unfold inK; omega))) ?_
        refine rg_q (.inl rfl) rfl rfl (by exact QW.qr (qw_move rfl)) ?_
        refine rg_nil ?_
        exact qg_round_sp _ _ _ ⟨k + 1, _, Br2, by omega, by rw [entries_step hklt, hgn, ← List.append_assoc]; exact hor2, rfl, rfl, rfl⟩ (by repeat (first | exact Sub.nil | refine Sub.cons rfl ?_ | refine Sub.cons (congrArg (fun z => some (Value.int IntKind.i64 z)) (by omega)) ?_)) (cat_sub (ls' := [[(b4, _)], Br2, Bn, [(bk, _)], B1, [(b27, _)], [(bl, _)], [(bm, _)], Bv, Ko]) (ls := [Br2, Be, [(b4, _)], Bn, [(bk, _)], B1, [(b27, _)], [(bl, _)], [(bm, _)], Bv, Ko]) (by repeat (first | exact SubM.nil | refine SubM.cons (by repeat (first | exact Ins.here | apply Ins.there)) ?_))) (by omega)
      · intro hlt
        obtain rfl : k = (namesOf ms).length := by omega
        rw [List.take_length] at hor ⊢
        refine rg_nil ?_
        refine qg_then ?_
        refine cg_seq ?_
        refine cg_false rfl ?_
        refine cg_exit ?_
        refine qg_then_exit ?_
        refine qg_then_exit ?_
        refine qg_block_here ?_
        refine qg_then ?_
        refine cg_seq ?_
        refine cg_draw follows (.op 0 false (.op 1 true (.op 2 false (.op 3 false .done)))) _ (by kernel_rfl) (SubP.of (List.Sublist.refl _)) ?_
        refine dg_r rfl rfl rfl (.inl rfl) rfl rfl (by exact qr_load1 rfl (by repeat (first | exact List.Mem.head _ | apply List.Mem.tail | apply List.mem_append_right | assumption)) rfl) ?_
        refine dg_e rfl rfl (.inl rfl) rfl rfl (by exact ev_call0 rfl (.cons rfl (.cons rfl (.cons rfl (.nil)))) (record_ca 4 [] [] _ (by decide) (by decide) O _ rdl_nilB)) ?_
        rintro ev2 _ ⟨Be, hoe, rfl⟩
        refine ⟨(SubP.of (by repeat (first | exact List.Sublist.refl _ | exact List.nil_sublist _ | exact List.sublist_append_right _ _ | apply List.Sublist.cons_cons | apply List.Sublist.cons | refine List.Sublist.trans ?_ (List.sublist_append_right _ _)))), ?_⟩
        refine dg_g rfl rfl (.inl rfl) rfl rfl (by exact ev_appendL (xs := recF 1 [] (numF (l.life + 1) 4) ++ entriesF l.has (namesOf ms)) (ys := recF 4 [] []) (T := 39) (T2 := 39) (.cons rfl (.cons rfl .nil)) rfl rfl hor (R := cat [Be, [(b4, _)], Bn, [(bk, _)], B1, [(b27, _)], [(bl, _)], [(bm, _)], Bv, Ko] F) (cat_perm (ls' := [Br, Be, [(b4, _)], Bn, [(bk, _)], B1, [(b27, _)], [(bl, _)], [(bm, _)], Bv, Ko]) (ls := [Be, [(b4, _)], Br, Bn, [(bk, _)], B1, [(b27, _)], [(bl, _)], [(bm, _)], Bv, Ko]) (by repeat (first | exact PermM.nil | refine PermM.cons (by repeat (first | exact Ins.here | apply Ins.there)) ?_))) ((hoe.rd (fun _ => rfl) (by decide)).mono (fun q hq => List.mem_append_left _ hq)).src (fun _ => rfl) encB_one (by rw [List.length_append]; omega) rfl rfl rfl rfl) ?_
        rintro rv3 _ ⟨Br3, hor3, rfl⟩
        rw [show recF 1 [] (numF (l.life + 1) 4) ++ entriesF l.has (namesOf ms) ++ recF 4 [] [] = compactB l from by unfold compactB; rw [hnames]] at hor3
        obtain ⟨pr3, cr3, rfl, _⟩ := id (hor3.rd (fun _ => rfl) (by decide))
        generalize hP : compactB l = P at hor3 hbytes
        refine dg_g0 rfl rfl (.inl rfl) rfl (by exact ev_store rfl rfl (by first | exact CellsOf.agg | exact CellsOf.one rfl) (by repeat (first | exact List.Mem.head _ | apply List.Mem.tail | apply List.mem_append_right | assumption)) (by repeat (first | exact SetSeg.done | apply SetSeg.take | apply SetSeg.skip)) rfl rfl (by repeat (first | exact Upd.here | apply Upd.there | apply Upd.app)) (by first | exact Or.inl ⟨inferInstance, rfl⟩ | exact Or.inr inferInstance)) ?_
        rintro _ _ ⟨rfl, rfl⟩
        refine dg_nil ?_
        refine qg_then ?_
        refine cg_seq ?_
        refine cg_draw follows (.op 0 false (.op 1 false (.op 2 false (.op 3 false (.op 4 false (.op 5 false (.op 6 false (.op 7 false (.op 8 false (.op 9 false (.op 10 true (.op 11 false .done)))))))))))) _ (by kernel_rfl) (SubP.of (List.Sublist.refl _)) ?_
        refine dg_w rfl rfl (.inl rfl) rfl rfl (by exact qw_move rfl) ?_
        refine dg_w rfl rfl (.inl rfl) rfl rfl (by exact qw_move rfl) ?_
        refine dg_w rfl rfl (.inl rfl) rfl rfl (by exact qw_nilCheck rfl) ?_
        refine dg_w rfl rfl (.inl rfl) rfl rfl (by exact qw_fieldAddr rfl) ?_
        refine dg_r rfl rfl rfl (.inl rfl) rfl rfl (by exact qr_load1 rfl (by repeat (first | exact List.Mem.head _ | apply List.Mem.tail | apply List.mem_append_right | assumption)) rfl) ?_
        refine dg_w rfl rfl (.inl rfl) rfl rfl (by exact qw_sub_in rfl rfl (by unfold inK; omega)) ?_
        refine dg_w rfl rfl (.inl rfl) rfl rfl (by exact qw_nilCheck rfl) ?_
        refine dg_w rfl rfl (.inl rfl) rfl rfl (by exact qw_fieldAddr rfl) ?_
        refine dg_w rfl rfl (.inl rfl) rfl rfl (by exact qw_indexAddr_arr rfl rfl (by omega) (by omega)) ?_
        refine dg_r rfl rfl rfl (.inl rfl) rfl rfl (by exact qr_load1 rfl (by repeat (first | exact List.Mem.head _ | apply List.Mem.tail | apply List.mem_append_right | assumption)) (by exact hgo)) ?_
        refine dg_e rfl rfl (.inl rfl) rfl rfl (by exact ev_alloc (by first | exact CellsOf.agg | exact CellsOf.one rfl)) ?_
        rintro _ _ ⟨b7, rfl, rfl⟩
        refine ⟨(SubP.of (by repeat (first | exact List.Sublist.refl _ | exact List.nil_sublist _ | exact List.sublist_append_right _ _ | apply List.Sublist.cons_cons | apply List.Sublist.cons | refine List.Sublist.trans ?_ (List.sublist_append_right _ _)))), ?_⟩
        refine dg_g0 rfl rfl (.inl rfl) rfl (by exact ev_store rfl rfl (by first | exact CellsOf.agg | exact CellsOf.one rfl) (by repeat (first | exact List.Mem.head _ | apply List.Mem.tail | apply List.mem_append_right | assumption)) (by repeat (first | exact SetSeg.done | apply SetSeg.take | apply SetSeg.skip)) rfl rfl (by repeat (first | exact Upd.here | apply Upd.there | apply Upd.app)) (by first | exact Or.inl ⟨inferInstance, rfl⟩ | exact Or.inr inferInstance)) ?_
        rintro _ _ ⟨rfl, rfl⟩
        refine dg_nil ?_
        refine qg_then ?_
        refine cg_seq ?_
        refine cg_seq ?_
        refine cg_region ?_
        refine rg_q (.inl rfl) rfl rfl (by exact qr_load1 rfl (by repeat (first | exact List.Mem.head _ | apply List.Mem.tail | apply List.mem_append_right | assumption)) rfl) ?_
        refine rg_q (.inl rfl) rfl rfl (by exact QW.qr (qw_makeFunc (.cons rfl (.nil)) (.nil))) ?_
        refine rg_q (.inl rfl) rfl rfl (by exact QW.qr (qw_makeFunc (.nil) (.cons rfl (.cons rfl (.nil))))) ?_
        refine rg_q (.inl rfl) rfl rfl (by exact qr_load1 rfl (by repeat (first | exact List.Mem.head _ | apply List.Mem.tail | apply List.mem_append_right | assumption)) rfl) ?_
        refine rg_q (.inl rfl) rfl rfl (by exact QW.qr (qw_makeFunc (.cons rfl (.nil)) (.nil))) ?_
        refine rg_e (.inl rfl) rfl rfl (by exact ev_buildSlice (.cons rfl (.cons rfl (.cons rfl (.nil)))) rfl (by first | exact CellsOf.agg | exact CellsOf.one rfl) (by rfl) (.cons rfl (by first | exact CellsOf.agg | exact CellsOf.one rfl) (by repeat (first | exact SetSeg.done | apply SetSeg.take | apply SetSeg.skip)) (by rfl) (by rfl) (.cons rfl (by first | exact CellsOf.agg | exact CellsOf.one rfl) (by repeat (first | exact SetSeg.done | apply SetSeg.take | apply SetSeg.skip)) (by rfl) (by rfl) (.cons rfl (by first | exact CellsOf.agg | exact CellsOf.one rfl) (by repeat (first | exact SetSeg.done | apply SetSeg.take | apply SetSeg.skip)) (by rfl) (by rfl) (.nil))))) ?_
        rintro _ _ ⟨b70, rfl, rfl⟩
        skip
        refine rg_q (.inl rfl) rfl rfl (by exact QW.qr (qw_len_slice (t := 305) (.cons rfl (.nil)) rfl)) ?_
        refine rg_q (.inl rfl) rfl rfl (by exact QW.qr (qw_move rfl)) ?_
        refine rg_nil ?_
        refine qg_then ?_
        refine cg_block ?_
        refine cg_loop (fun E' L' m => ∃ (k : Nat) (Ko2 : List Blk), k ≤ 3 ∧ (∀ j, j < k → (opK P j (runK P so j)).2 = 0) ∧ SlabAt bo (runK P so k) Ko2 ∧ E' = [(0, PT bl), (70, .slice (some ⟨b70, 0, none⟩) 3 3), (71, I 3), (72, .int .i64 k)] ∧
          L' = cat [Ko2, [(b70, .cells [fvK bo b7 b4 0, fvK bo b7 b4 1, fvK bo b7 b4 2].toArray 79 (0, 0))], [(b7, .cells [PT bo].toArray 88 (0, 0))], [(b4, .cells [.slice pr3 P.length cr3].toArray 39 (0, 0))], Br3, Be, Bn, [(bk, .cells #[.map (some bm)] 243 (0, 0))], B1, [(b27, .cells [U32 (l.life + 1)].toArray 23 (0, 0))], [lbBlk bl b0 b1 bm l], [(bm, .map es c)], Bv] F ∧ m = 3 - k)
          _ _ _ ⟨0, Ko, by omega, fun j h => by omega, hs, rfl, rfl, rfl⟩ (by repeat (first | exact Sub.nil | refine Sub.cons rfl ?_ | refine Sub.cons (congrArg (fun z => some (Value.int IntKind.i64 z)) (by omega)) ?_)) (cat_perm (ls' := [Ko, [(b70, _)], [(b7, _)], [(b4, _)], Br3, Be, Bn, [(bk, _)], B1, [(b27, _)], [(bl, _)], [(bm, _)], Bv]) (ls := [[(b70, _)], [(b7, _)], Br3, Be, [(b4, _)], Bn, [(bk, _)], B1, [(b27, _)], [(bl, _)], [(bm, _)], Bv, Ko]) (by repeat (first | exact PermM.nil | refine PermM.cons (by repeat (first | exact Ins.here | apply Ins.there)) ?_))) ?_
        rintro _ _ _ ⟨k, Ko2, hk, hall, hsk, rfl, rfl, rfl⟩
        refine cg_seq ?_
        refine cg_region ?_
        refine rg_split (.inl rfl) rfl rfl (by exact qc_lss rfl rfl) ?_ ?_
        · intro hlt
          have hk3 : k < 3 := by omega
          have hrs := runK_size P so k hk3
          refine rg_nil ?_
          refine qg_then ?_
          refine cg_seq ?_
          refine cg_true rfl ?_
          refine cg_skip ?_
          refine qg_then ?_
          refine cg_seq ?_
          refine cg_block ?_
          refine cg_seq ?_
          refine cg_region ?_
          refine rg_q (.inl rfl) rfl rfl (by exact QW.qr (qw_indexAddr rfl rfl (by omega) (by omega))) ?_
          refine rg_q (.inl rfl) rfl rfl (by exact qr_load1 rfl (by repeat (first | exact List.Mem.head _ | apply List.Mem.tail | apply List.mem_append_right | assumption)) (fvK_get bo b7 b4 k hk3)) ?_
          refine rg_q (.inl rfl) rfl rfl (by exact QW.qr (qw_assign rfl)) ?_
          refine rg_nil ?_
          refine qg_then ?_
          refine cg_seq ?_
          refine cg_region ?_
          refine rg_q (.inl rfl) rfl rfl (by exact QW.qr (qw_move rfl)) ?_
          refine rg_e (.inl rfl) rfl rfl (by exact op_ev bo b7 b4 k hk3 (runK P so k) Ko2 P _ O _ rfl hsk (by repeat (first | exact List.Mem.head _ | apply List.Mem.tail | apply List.mem_append_right | assumption)) (by repeat (first | exact List.Mem.head _ | apply List.Mem.tail | apply List.mem_append_right | assumption)) ((hor3.rd (fun _ => rfl) (by decide)).mono (fun q hq => mem_cat (s := Br3) (by repeat (first | exact List.Mem.head _ | apply List.Mem.tail)) hq)) (by split at hrs <;> omega) hbytes) ?_
          rintro _ _ ⟨rfl, Ko3, rfl, hsk2⟩
          generalize he : (opK P k (runK P so k)).2 = ek
          refine rg_q (.inl rfl) rfl rfl (by exact QW.qr (qw_assign rfl)) ?_
          refine rg_nil ?_
          refine qg_then ?_
          refine cg_seq ?_
          refine cg_region ?_
          refine rg_q (.inl rfl) rfl rfl (by exact QW.qr (qw_move rfl)) ?_
          refine rg_split (.inl rfl) rfl rfl (by exact qc_neq rfl rfl) ?_ ?_
          · intro hne
            have hfin := compact_fail (so := so) hd hm hk3 (by rw [hP]; exact hall) (by rw [hP, he]; exact hne)
            rw [hP, he] at hfin
            refine rg_nil ?_
            refine qg_then ?_
            refine cg_true rfl ?_
            refine cg_seq ?_
            refine cg_region ?_
            refine rg_q (.inl rfl) rfl rfl (by exact QW.qr (qw_move rfl)) ?_
            refine rg_q (.inl rfl) rfl rfl (by exact QW.qr (qw_move rfl)) ?_
            refine rg_e (.inl rfl) rfl rfl (by exact ev_call0 rfl (.cons rfl (.cons rfl (.nil))) ((fail_ca bl b0 b1 bm l ek O _).pre (fun w h => h.perm (cat_perm (ls' := [[lbBlk bl b0 b1 bm l], Ko3, [(b70, _)], [(b7, _)], [(b4, _)], Br3, Be, Bn, [(bk, _)], B1, [(b27, _)], [(bm, _)], Bv]) (ls := [Ko3, [(b70, _)], [(b7, _)], [(b4, _)], Br3, Be, Bn, [(bk, _)], B1, [(b27, _)], [(bl, _)], [(bm, _)], Bv]) (by repeat (first | exact PermM.nil | refine PermM.cons (by repeat (first | exact Ins.here | apply Ins.there)) ?_)))))) ?_
            rintro _ _ ⟨rfl, rfl⟩
            refine rg_q (.inl rfl) rfl rfl (by exact QW.qr (qw_assign rfl)) ?_
            refine rg_nil ?_
            refine qg_then ?_
            refine cg_ret ?_
            refine qg_block_ret ?_
            refine qg_then_ret ?_
            refine qg_then_ret ?_
            refine qg_block_ret ?_
            refine qg_then_ret ?_
            exact qg_end_sp (.inl rfl) _ (.cons (.tmp rfl) (.nil)) _ (cat_sub (ls' := [[lbBlk bl b0 b1 bm (failL l ek)], [(bm, _)], Bv, Ko3]) (ls := [[lbBlk bl b0 b1 bm (failL l ek)], Ko3, [(b70, _)], [(b7, _)], [(b4, _)], Br3, Be, Bn, [(bk, _)], B1, [(b27, _)], [(bm, _)], Bv]) (by repeat (first | exact SubM.nil | refine SubM.cons (by repeat (first | exact Ins.here | apply Ins.there)) ?_))) ⟨by rw [hfin] <;> rfl, .inl ⟨by rw [hfin]; exact hne, _, Ko3, rfl, by rw [hfin]; exact ⟨b0, b1, bm, es, c, ms, Bv, hon, hms, hva, hpl, rfl⟩, by rw [hfin]; exact hsk2⟩⟩
          · intro hne
            refine rg_nil ?_
            refine qg_then ?_
            refine cg_false rfl ?_
            refine cg_skip ?_
            refine qg_block ?_
            refine qg_then ?_
            refine cg_region ?_
            refine rg_q (.inl rfl) rfl rfl (by exact QW.qr (qw_add_in rfl rfl (by unfold inK; omega))) ?_
            refine rg_q (.inl rfl) rfl rfl (by exact QW.qr (qw_move rfl)) ?_
            refine rg_nil ?_
            exact qg_round _ _ _ ⟨k + 1, Ko3, by omega, fun j hj => by (rcases Nat.lt_succ_iff_lt_or_eq.1 hj with h | h; exact hall j h; subst h; exact he.trans (Decidable.not_not.1 hne)), hsk2, rfl, rfl, rfl⟩ (by repeat (first | exact Sub.nil | refine Sub.cons rfl ?_ | refine Sub.cons (congrArg (fun z => some (Value.int IntKind.i64 z)) (by omega)) ?_)) (List.Perm.refl _) (by omega)
        · intro hlt
          obtain rfl : k = 3 := by omega
          have hfin := compact_ok (so := so) hd hm (by rw [hP]; exact hall)
          rw [hP] at hfin
          unfold lbBlk
          refine rg_nil ?_
          refine qg_then ?_
          refine cg_seq ?_
          refine cg_false rfl ?_
          refine cg_exit ?_
          refine qg_then_exit ?_
          refine qg_then_exit ?_
          refine qg_block_here ?_
          refine qg_then ?_
          refine cg_seq ?_
          refine cg_draw follows (.op 0 false (.op 1 false (.op 2 false (.op 3 false (.op 4 false (.op 5 false (.op 6 false (.op 7 false (.op 8 false (.op 9 false (.op 10 false (.op 11 false (.op 12 false (.op 13 false (.op 14 false (.op 15 false (.op 16 false (.op 17 false .done)))))))))))))))))) _ (by kernel_rfl) (SubP.of (List.Sublist.refl _)) ?_
          refine dg_w rfl rfl (.inl rfl) rfl rfl (by exact qw_move rfl) ?_
          refine dg_w rfl rfl (.inl rfl) rfl rfl (by exact qw_move rfl) ?_
          refine dg_w rfl rfl (.inl rfl) rfl rfl (by exact qw_move rfl) ?_
          refine dg_w rfl rfl (.inl rfl) rfl rfl (by exact qw_nilCheck rfl) ?_
          refine dg_w rfl rfl (.inl rfl) rfl rfl (by exact qw_fieldAddr rfl) ?_
          refine dg_r rfl rfl rfl (.inl rfl) rfl rfl (by exact qr_load1 rfl (by repeat (first | exact List.Mem.head _ | apply List.Mem.tail | apply List.mem_append_right | assumption)) rfl) ?_
          refine dg_w rfl rfl (.inl rfl) rfl rfl (by exact qw_sub_in rfl rfl (by unfold inK; omega)) ?_
          refine dg_w rfl rfl (.inl rfl) rfl rfl (by exact qw_move rfl) ?_
          refine dg_w rfl rfl (.inl rfl) rfl rfl (by exact qw_nilCheck rfl) ?_
          refine dg_w rfl rfl (.inl rfl) rfl rfl (by exact qw_fieldAddr rfl) ?_
          refine dg_r rfl rfl rfl (.inl rfl) rfl rfl (by exact qr_load1 rfl (by repeat (first | exact List.Mem.head _ | apply List.Mem.tail | apply List.mem_append_right | assumption)) rfl) ?_
          refine dg_w rfl rfl (.inl rfl) rfl rfl (by exact qw_add_in rfl rfl (by unfold inK; omega)) ?_
          refine dg_w rfl rfl (.inl rfl) rfl rfl (by exact qw_nilCheck rfl) ?_
          refine dg_w rfl rfl (.inl rfl) rfl rfl (by exact qw_fieldAddr rfl) ?_
          refine dg_g0 rfl rfl (.inl rfl) rfl (by exact ev_store rfl rfl (by first | exact CellsOf.agg | exact CellsOf.one rfl) (by repeat (first | exact List.Mem.head _ | apply List.Mem.tail | apply List.mem_append_right | assumption)) (by repeat (first | exact SetSeg.done | apply SetSeg.take | apply SetSeg.skip)) rfl rfl (by repeat (first | exact Upd.here | apply Upd.there | apply Upd.app)) (by first | exact Or.inl ⟨inferInstance, rfl⟩ | exact Or.inr inferInstance)) ?_
          rintro _ _ ⟨rfl, rfl⟩
          refine dg_w rfl rfl (.inl rfl) rfl rfl (by exact qw_nilCheck rfl) ?_
          refine dg_w rfl rfl (.inl rfl) rfl rfl (by exact qw_fieldAddr rfl) ?_
          refine dg_g0 rfl rfl (.inl rfl) rfl (by exact ev_store rfl rfl (by first | exact CellsOf.agg | exact CellsOf.one rfl) (by repeat (first | exact List.Mem.head _ | apply List.Mem.tail | apply List.mem_append_right | assumption)) (by repeat (first | exact SetSeg.done | apply SetSeg.take | apply SetSeg.skip)) rfl rfl (by repeat (first | exact Upd.here | apply Upd.there | apply Upd.app)) (by first | exact Or.inl ⟨inferInstance, rfl⟩ | exact Or.inr inferInstance)) ?_
          rintro _ _ ⟨rfl, rfl⟩
          refine dg_nil ?_
          refine qg_then ?_
          refine cg_seq ?_
          refine cg_region ?_
          refine rg_q (.inl rfl) rfl rfl (by exact QW.qr (qw_assign rfl)) ?_
          refine rg_nil ?_
          refine qg_then ?_
          refine cg_ret ?_
          exact qg_end_sp (.inl rfl) _ (.cons (.tmp rfl) (.nil)) _ (cat_sub (ls' := [[(bl, _)], [(bm, _)], Bv, Ko2]) (ls := [Ko2, [(b70, _)], [(b7, _)], [(b4, _)], Br3, Be, Bn, [(bk, _)], B1, [(b27, _)], [(bl, _)], [(bm, _)], Bv]) (by repeat (first | exact SubM.nil | refine SubM.cons (by repeat (first | exact Ins.here | apply Ins.there)) ?_))) ⟨by rw [hfin] <;> rfl, .inr ⟨by rw [hfin], _, Ko2, rfl, by rw [hfin]; exact ⟨b0, b1, bm, es, c, ms, Bv, onAt_flip hon, hms, hva, hpl, rfl⟩, by rw [hfin]; exact hsk⟩⟩

end Go.Proofs.YthmicniimofagaaGreat