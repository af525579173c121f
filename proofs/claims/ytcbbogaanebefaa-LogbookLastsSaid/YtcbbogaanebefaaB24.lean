/-
  THE WALK of the law's shot: all that a logbook has, as a text. Conditions: sizes.
-/
import Derived.Test.YtcbbogaanebefaaB22
namespace Go.Proofs.Ytcbbogaanebefaa
open Fw
open Go.Proofs (encStr)
set_option linter.unusedVariables false
set_option linter.unusedSimpArgs false
set_option maxRecDepth 100000
set_option maxHeartbeats 1000000

namespace Fw
variable {P : Program} {n : Nat} {E : Env} {O : Out} {L : List Blk} {dst : Option Tmp} {T ty : TypeId} {pos : String} {after : Array _root_.Go.Edge} {g : Option (Nat × Bool)} {x y : Operand}
theorem qw_add_str {a b : Bytes} {yt : TypeId} (h : ev E x = some (encStr a)) (hy : ev E y = some (encStr b)) (hsz : a.length + b.length ≤ 9223372036854775807) : QW P ⟨dst, .binOp .add T x y yt, ty, pos, after, g⟩ E (encStr (a ++ b)) := fun ac n hf w => by
  have h3 : (eqGuard .add T x y (encStr a) (encStr b)).run P w = .ok () w := by unfold eqGuard; simp
  have h5 : (⟨a.toArray⟩ : ByteArray) ++ (⟨b.toArray⟩ : ByteArray) = ⟨(a ++ b).toArray⟩ := by
    apply ByteArray.ext
    simp
  have h6 : ¬ ((((⟨a.toArray⟩ : ByteArray).size + (⟨b.toArray⟩ : ByteArray).size : Nat) : Int) > IntKind.i64.max) := by
    have e1 : (⟨a.toArray⟩ : ByteArray).size = a.length := by show a.toArray.size = _; simp
    have e2 : (⟨b.toArray⟩ : ByteArray).size = b.length := by show b.toArray.size = _; simp
    rw [e1, e2]
    have : IntKind.i64.max = 9223372036854775807 := by rfl
    omega
  have h4 : (Op.stringOp .add ⟨a.toArray⟩ ⟨b.toArray⟩).run P w = .ok (encStr (a ++ b)) w := by
    unfold Op.stringOp
    simp only [if_neg h6, h5]
    rfl
  simp only [execOp, hf.ev h, hf.ev hy, Sem.run_bind, h3, Result.andThen_ok, binOp, h4, Sem.run_pure]
theorem shr8_nat (n : Nat) : shrF .i64 (n : Int) 8 = ((n / 256 : Nat) : Int) := by
  unfold shrF
  have h1 : min (8 : Int).toNat (IntKind.bits .i64) = 8 := rfl
  rw [h1, Int.fdiv_eq_ediv_of_nonneg _ (by decide)]
  omega
end Fw
def pieceF (n p : Bytes) : Bytes := [UInt8.ofNat n.length, UInt8.ofNat (p.length / 256), UInt8.ofNat p.length] ++ n ++ p
def shotN (has : Kept) (ns : List Bytes) : Bytes := ns.flatMap fun n => pieceF n ((getG has n).getD [])
def shotF (has : Kept) : Bytes := shotN has (namesOf has)
theorem shot_step {has : Kept} {ns : List Bytes} {k : Nat} (hk : k < ns.length) : shotN has (ns.take (k + 1)) = shotN has (ns.take k) ++ pieceF ns[k] ((getG has ns[k]).getD []) := by
  unfold shotN
  rw [List.take_succ_eq_append_getElem hk, List.flatMap_append]
  simp
theorem shot_len (has : Kept) (hns : ∀ t ∈ has, t.1.length ≤ 1000000 ∧ t.2.length ≤ 1000000) : ∀ ns : List Bytes, (∀ n ∈ ns, ∃ x, getG has n = some x ∧ n.length ≤ 1000000 ∧ x.length ≤ 1000000) → (shotN has ns).length ≤ ns.length * 2000003
  | [], _ => by simp [shotN]
  | n :: ns, h => by
    obtain ⟨x, hx, h1, h2⟩ := h n List.mem_cons_self
    have ih := shot_len has hns ns (fun n hn => h n (List.mem_cons_of_mem _ hn))
    unfold shotN at ih ⊢
    rw [List.flatMap_cons, List.length_append, List.length_cons, hx]
    have : (pieceF n ((some x).getD [])).length = n.length + x.length + 3 := by
      unfold pieceF; simp only [List.length_append, List.length_cons, List.length_nil, Option.getD_some]; omega
    omega
theorem rdB3 (b : Nat) (L : List Blk) (x y z : UInt8) (h : (b, Obj.cells [Value.int .u8 x.toNat, Value.int .u8 y.toNat, Value.int .u8 z.toNat].toArray 5 (0, 0)) ∈ L) : RdW L encB (.slice (some ⟨b, 0, none⟩) 3 3) [x, y, z] :=
  ⟨_, _, rfl, fun _ => ⟨b, 0, _, _, _, rfl, h, fun j hj => by simp [encB]⟩⟩
theorem SameG.names {a b : Kept} (ha : (a.map Prod.fst).Nodup) (hb : (b.map Prod.fst).Nodup) (h : SameG a b) : namesOf a = namesOf b := by
  have hp := (SameG.perm ha hb h).map Prod.fst
  unfold namesOf
  rw [show (a.map Prod.fst).mergeSort leB = (a.map Prod.fst).mergeSort (fun x y => decide (x ≤ y)) from rfl]
  exact mergeSort_of_perm hp
theorem SameG.shot {a b : Kept} (ha : (a.map Prod.fst).Nodup) (hb : (b.map Prod.fst).Nodup) (h : SameG a b) : shotF a = shotF b := by
  unfold shotF shotN
  rw [SameG.names ha hb h]
  congr 1
  funext n
  rw [h n]

theorem shot_ca (bl b0 b1 : Nat) (l : Lb) (K : List Blk) (O : Out) (F : List Blk) (hl : LbIn bl b0 b1 l K) (hnd : (l.has.map Prod.fst).Nodup) (hsz : l.has.length ≤ 1000000) (hns : ∀ t ∈ l.has, t.1.length ≤ 1000000 ∧ t.2.length ≤ 1000000) :
    CA Try.prog 19 [PT bl] O (cat [K] F) fun v L' => v = encStr (shotF l.has) ∧ L' = cat [K] F := by
  have hnl := namesOf_len l.has
  have hall : ∀ n ∈ namesOf l.has, ∃ x, getG l.has n = some x ∧ n.length ≤ 1000000 ∧ x.length ≤ 1000000 := fun n hn => by
    obtain ⟨x, hx⟩ := name_get hn
    have := hns (n, x) ((getG_some hnd).1 hx)
    exact ⟨x, hx, this⟩
  refine ca_enter Try.func19 rfl rfl ?_
  rw [Try.ntmps19]
  simp only [envOf]
  refine cg_seq ?_
  refine cg_region ?_
  refine rg_q (.inl rfl) rfl rfl (by exact QW.qr (qw_assign rfl)) ?_
  refine rg_nil ?_
  refine qg_then ?_
  refine cg_seq ?_
  refine cg_region ?_
  refine rg_q (.inl rfl) rfl rfl (by exact QW.qr (qw_assign rfl)) ?_
  refine rg_nil ?_
  refine qg_then ?_
  refine cg_seq ?_
  refine cg_seq ?_
  refine cg_region ?_
  refine rg_q (.inl rfl) rfl rfl (by exact QW.qr (qw_move rfl)) ?_
  refine rg_e (.inl rfl) rfl rfl (by exact ev_call0 rfl (.cons rfl (.nil)) (names_in bl b0 b1 l K O F hl hsz (fun t ht => (hns t ht).1))) ?_
  rintro nv _ ⟨Bn, hon, rfl⟩
  obtain ⟨pn, cn, rfl, hqn⟩ := id (hon.rd (fun _ => rfl) (by decide))
  refine rg_q (.inl rfl) rfl rfl (by exact QW.qr (qw_len_slice (t := 41) (.cons rfl (.nil)) rfl)) ?_
  refine rg_q (.inl rfl) rfl rfl (by exact QW.qr (qw_move rfl)) ?_
  refine rg_nil ?_
  refine qg_then ?_
  refine cg_block ?_
  refine cg_loop (fun E' L' m => ∃ (j : Nat), j ≤ (namesOf l.has).length ∧ E' = [(0, PT bl), (3, encStr (shotN l.has ((namesOf l.has).take j))), (9, .slice pn (namesOf l.has).length cn), (10, .int .i64 (namesOf l.has).length), (11, .int .i64 j)] ∧ L' = cat [Bn, K] F ∧ m = (namesOf l.has).length - j)
    _ _ _ ⟨0, by omega, rfl, rfl, rfl⟩ (by repeat (first | exact Sub.nil | refine Sub.cons rfl ?_ | refine Sub.cons (congrArg (fun z => some (Value.int IntKind.i64 z)) (by omega)) ?_)) (List.Perm.refl _) ?_
  rintro _ _ _ ⟨j, hjn, rfl, rfl, rfl⟩
  refine cg_seq ?_
  refine cg_region ?_
  refine rg_split (.inl rfl) rfl rfl (by exact qc_lss rfl rfl) ?_ ?_
  · intro hj
    have hjl : j < (namesOf l.has).length := by omega
    obtain ⟨bq, oq, Aq, tq, fq, rfl, hmq, hsegq⟩ := hqn.2.2.2 (by omega)
    have hgq : Aq[oq + (j : Int).toNat * 1]? = some (encStr (namesOf l.has)[j]) := (hsegq.elem (enc := encN) (k := 1) (fun _ => rfl) hjl).get (i := 0) rfl
    obtain ⟨x, hgx, hx1, hx2⟩ := hall _ (List.getElem_mem hjl)
    have hstep := shot_step (has := l.has) hjl
    have hlen := shot_len l.has hns ((namesOf l.has).take j) (fun n hn => hall n (List.mem_of_mem_take hn))
    rw [List.length_take] at hlen
    generalize (namesOf l.has)[j] = nm at hgq hgx hstep hx1
    rw [hgx] at hstep
    refine rg_nil ?_
    refine qg_then ?_
    refine cg_seq ?_
    refine cg_true rfl ?_
    refine cg_skip ?_
    refine qg_then ?_
    refine cg_seq ?_
    refine cg_block ?_
    refine cg_seq ?_
    refine cg_region ?_
    refine rg_q (.inl rfl) rfl rfl (by exact QW.qr (qw_indexAddr rfl rfl (by omega) (by omega))) ?_
    refine rg_q (.inl rfl) rfl rfl (by exact qr_load1' rfl (mem_cat (ls := [Bn, K]) (s := Bn) (by repeat (first | exact List.Mem.head _ | apply List.Mem.tail)) hmq) hgq) ?_
    refine rg_q (.inl rfl) rfl rfl (by exact QW.qr (qw_assign rfl)) ?_
    refine rg_nil ?_
    refine qg_then ?_
    refine cg_seq ?_
    refine cg_region ?_
    refine rg_q (.inl rfl) rfl rfl (by exact QW.qr (qw_move rfl)) ?_
    refine rg_q (.inl rfl) rfl rfl (by exact QW.qr (qw_move rfl)) ?_
    refine rg_e (.inl rfl) rfl rfl (by exact ev_call0 rfl (.cons rfl (.cons rfl (.nil))) ((get3_ca bl b0 b1 O (cat [Bn] F) hl (fun t ht => (hns t ht).2) hgx).pre (fun w h => h.perm (cat_perm (ls' := [K, Bn]) (ls := [Bn, K]) (by repeat (first | exact PermM.nil | refine PermM.cons (by repeat (first | exact Ins.here | apply Ins.there)) ?_)))))) ?_
    rintro _ _ ⟨gv, Bg, rfl, rfl, hgv⟩
    obtain ⟨pg, cg, rfl, hqg⟩ := id hgv
    refine rg_q (.inl rfl) rfl rfl (by exact QW.qr (qw_move rfl)) ?_
    refine rg_q (.inl rfl) rfl rfl (by exact QW.qr (qw_extract rfl rfl)) ?_
    refine rg_q (.inl rfl) rfl rfl (by exact QW.qr (qw_extract rfl rfl)) ?_
    refine rg_q (.inl rfl) rfl rfl (by exact QW.qr (qw_assign rfl)) ?_
    refine rg_q (.inl rfl) rfl rfl (by exact QW.qr (qw_assign rfl)) ?_
    refine rg_nil ?_
    refine qg_then ?_
    refine cg_region ?_
    refine rg_q (.inl rfl) rfl rfl (by exact QW.qr (qw_move rfl)) ?_
    refine rg_q (.inl rfl) rfl rfl (by exact QW.qr (qw_move rfl)) ?_
    refine rg_q (.inl rfl) rfl rfl (by exact QW.qr (qw_len_enc (t := 9) (.cons rfl .nil) rfl)) ?_
    refine rg_q (.inl rfl) rfl rfl (by exact QW.qr (qw_val (qw_conv rfl) (congrArg (Value.int .u8) (wrap_u8_nat _)))) ?_
    refine rg_q (.inl rfl) rfl rfl (by exact QW.qr (qw_move rfl)) ?_
    refine rg_q (.inl rfl) rfl rfl (by exact QW.qr (qw_len_slice (t := 36) (.cons rfl (.nil)) rfl)) ?_
    refine rg_q (.inl rfl) rfl rfl (by exact QW.qr (qw_val (v' := I ((x.length / 256 : Nat))) (qw_shr rfl rfl (by decide)) (congrArg (Value.int .i64) (shr8_nat _)))) ?_
    refine rg_q (.inl rfl) rfl rfl (by exact QW.qr (qw_val (qw_conv rfl) (congrArg (Value.int .u8) (wrap_u8_nat _)))) ?_
    refine rg_q (.inl rfl) rfl rfl (by exact QW.qr (qw_move rfl)) ?_
    refine rg_q (.inl rfl) rfl rfl (by exact QW.qr (qw_len_slice (t := 36) (.cons rfl (.nil)) rfl)) ?_
    refine rg_q (.inl rfl) rfl rfl (by exact QW.qr (qw_val (qw_conv rfl) (congrArg (Value.int .u8) (wrap_u8_nat _)))) ?_
    refine rg_e (.inl rfl) rfl rfl (by exact ev_buildSlice (.cons rfl (.cons rfl (.cons rfl (.nil)))) rfl (by first | exact CellsOf.agg | exact CellsOf.one rfl) (by rfl) (.cons rfl (by first | exact CellsOf.agg | exact CellsOf.one rfl) (by repeat (first | exact SetSeg.done | apply SetSeg.take | apply SetSeg.skip)) (by rfl) (by rfl) (.cons rfl (by first | exact CellsOf.agg | exact CellsOf.one rfl) (by repeat (first | exact SetSeg.done | apply SetSeg.take | apply SetSeg.skip)) (by rfl) (by rfl) (.cons rfl (by first | exact CellsOf.agg | exact CellsOf.one rfl) (by repeat (first | exact SetSeg.done | apply SetSeg.take | apply SetSeg.skip)) (by rfl) (by rfl) (.nil))))) ?_
    rintro _ _ ⟨b32, rfl, rfl⟩
    refine rg_q (.inl rfl) rfl rfl (by exact qr_bytesToStr rfl (rdB3 b32 _ _ _ _ (List.Mem.head _))) ?_
    refine rg_q (.inl rfl) rfl rfl (by exact QW.qr (qw_move rfl)) ?_
    refine rg_q (.inl rfl) rfl rfl (by exact QW.qr (qw_add_str rfl rfl (by simp only [List.length_cons, List.length_nil]; omega))) ?_
    refine rg_q (.inl rfl) rfl rfl (by exact QW.qr (qw_move rfl)) ?_
    refine rg_q (.inl rfl) rfl rfl (by exact qr_bytesToStr rfl (hgv.mono (fun q hq => mem_cat (ls := [[(b32, _)], Bg, K, Bn]) (s := Bg) (by repeat (first | exact List.Mem.head _ | apply List.Mem.tail)) hq)).w) ?_
    refine rg_q (.inl rfl) rfl rfl (by exact QW.qr (qw_add_str rfl rfl (by simp only [List.length_append, List.length_cons, List.length_nil]; omega))) ?_
    refine rg_q (.inl rfl) rfl rfl (by exact QW.qr (qw_add_str rfl rfl (by simp only [List.length_append, List.length_cons, List.length_nil]; omega))) ?_
    refine rg_q (.inl rfl) rfl rfl (by exact QW.qr (qw_assign rfl)) ?_
    refine rg_nil ?_
    refine qg_block ?_
    refine qg_then ?_
    refine cg_region ?_
    refine rg_q (.inl rfl) rfl rfl (by exact QW.qr (qw_add_in rfl rfl (by unfold inK; omega))) ?_
    refine rg_q (.inl rfl) rfl rfl (by exact QW.qr (qw_move rfl)) ?_
    refine rg_nil ?_
    rw [show encStr (shotN l.has ((namesOf l.has).take j) ++ (([UInt8.ofNat nm.length, UInt8.ofNat (x.length / 256), UInt8.ofNat x.length] ++ nm) ++ x)) = encStr (shotN l.has ((namesOf l.has).take (j + 1))) from by rw [hstep]; rfl]
    exact qg_round_sp _ _ _ ⟨j + 1, by omega, rfl, rfl, rfl⟩ (by repeat (first | exact Sub.nil | refine Sub.cons rfl ?_ | refine Sub.cons (congrArg (fun z => some (Value.int IntKind.i64 z)) (by omega)) ?_)) (cat_sub (ls' := [Bn, K]) (ls := [[(b32, _)], Bg, K, Bn]) (by repeat (first | exact SubM.nil | refine SubM.cons (by repeat (first | exact Ins.here | apply Ins.there)) ?_))) (by omega)
  · intro hj
    have hjf : shotN l.has ((namesOf l.has).take j) = shotF l.has := by
      rw [List.take_of_length_le (by omega)]; rfl
    rw [hjf]
    refine rg_nil ?_
    refine qg_then ?_
    refine cg_seq ?_
    refine cg_false rfl ?_
    refine cg_exit ?_
    refine qg_then_exit ?_
    refine qg_then_exit ?_
    refine qg_block_here ?_
    refine qg_then ?_
    refine cg_seq ?_
    refine cg_region ?_
    refine rg_q (.inl rfl) rfl rfl (by exact QW.qr (qw_move rfl)) ?_
    refine rg_q (.inl rfl) rfl rfl (by exact QW.qr (qw_assign rfl)) ?_
    refine rg_nil ?_
    refine qg_then ?_
    refine cg_ret ?_
    exact qg_end_sp (.inl rfl) _ (.cons (.tmp rfl) (.nil)) _ (cat_sub (ls' := [K]) (ls := [Bn, K]) (by repeat (first | exact SubM.nil | refine SubM.cons (by repeat (first | exact Ins.here | apply Ins.there)) ?_))) ⟨rfl, rfl⟩

end Go.Proofs.Ytcbbogaanebefaa