/-
  THE WALKS of the document's Num, Record, put, drop, Find; strings held against each other by >=. Conditions: sizes.
-/
import Derived.Test.YtcbbogaanebefaaB29
import Derived.Sort.Walk0
namespace Go.Proofs.Ytcbbogaanebefaa
open Fw
open Go.Proofs (encStr)
set_option linter.unusedVariables false
set_option linter.unusedSimpArgs false
set_option maxRecDepth 100000
set_option maxHeartbeats 1000000

namespace Fw
variable {P : Program} {n : Nat} {E : Env} {O : Out} {L : List Blk} {dst : Option Tmp} {T ty : TypeId} {pos : String} {after : Array _root_.Go.Edge} {g : Option (Nat × Bool)} {x y : Operand}
theorem enc_toList (a : Bytes) : (⟨a.toArray⟩ : ByteArray).toList = a := by
  rw [Go.ByteArray.toList_eq]
theorem qw_geq_str {a b : Bytes} {yt : TypeId} (h : ev E x = some (encStr a)) (hy : ev E y = some (encStr b)) : QW P ⟨dst, .binOp .geq T x y yt, ty, pos, after, g⟩ E (.bool (!decide (a < b))) := fun ac n hf w => by
  have h3 : (eqGuard .geq T x y (encStr a) (encStr b)).run P w = .ok () w := by unfold eqGuard; simp
  have h4 : (Op.stringOp .geq ⟨a.toArray⟩ ⟨b.toArray⟩).run P w = .ok (.bool (!decide (a < b))) w := by
    unfold Op.stringOp
    simp only [enc_toList, bytesLess_eq, Sem.run_pure]
  simp only [execOp, hf.ev h, hf.ev hy, Sem.run_bind, h3, Result.andThen_ok, binOp, h4, Sem.run_pure]
theorem qc_geq_str {a b : Bytes} {yt : TypeId} (h : ev E x = some (encStr a)) (hy : ev E y = some (encStr b)) : QC P ⟨dst, .binOp .geq T x y yt, ty, pos, after, g⟩ E (b ≤ a) := by
  have hw := qw_geq_str (P := P) (T := T) (dst := dst) (ty := ty) (pos := pos) (after := after) (g := g) (yt := yt) h hy
  refine ⟨fun hp => ?_, fun hp => ?_⟩
  · rwa [decide_eq_false (List.not_lt.2 hp)] at hw
  · rwa [decide_eq_true (List.not_le.1 hp)] at hw
theorem qc_neq_str {a b : Bytes} {yt : TypeId} (h : ev E x = some (encStr a)) (hy : ev E y = some (encStr b)) : QC P ⟨dst, .binOp .neq T x y yt, ty, pos, after, g⟩ E (a ≠ b) := by
  have hw := qw_neq_str (P := P) (T := T) (dst := dst) (ty := ty) (pos := pos) (after := after) (g := g) (yt := yt) h hy
  refine ⟨fun hp => ?_, fun hp => ?_⟩
  · rwa [decide_eq_false hp] at hw
  · rwa [decide_eq_true (Decidable.not_not.1 hp)] at hw
theorem qc_eql_str {a b : Bytes} {yt : TypeId} (h : ev E x = some (encStr a)) (hy : ev E y = some (encStr b)) : QC P ⟨dst, .binOp .eql T x y yt, ty, pos, after, g⟩ E (a = b) := by
  have hw := qw_eql_str (P := P) (T := T) (dst := dst) (ty := ty) (pos := pos) (after := after) (g := g) (yt := yt) h hy
  refine ⟨fun hp => ?_, fun hp => ?_⟩
  · rwa [decide_eq_true hp] at hw
  · rwa [decide_eq_false hp] at hw
end Fw
def encE (t : Bytes × Bytes) : List Value := [encStr t.1, encStr t.2]
theorem encE_one : ∀ (x : Bytes × Bytes), ∀ v ∈ encE x, v.oneCell' = true := by
  intro x v hv
  simp only [encE, List.mem_cons, List.not_mem_nil, or_false] at hv
  rcases hv with rfl | rfl <;> rfl

/-! ### a number's bytes, from the last one on -/
def cellsK (n : Int) (k : Nat) : List Value := List.replicate k (Value.int .u8 0) ++ (numF n (4 - k)).flatMap encB
theorem num_set (n : Int) (j : Nat) (hj : j < 4) : SetSeg (cellsK n (j + 1)) (0 + (j : Int).toNat * 1) [Value.int .u8 (byteAt n (3 - j)).toNat] (cellsK n j) := by
  have e1 : cellsK n (j + 1) = List.replicate j (Value.int .u8 0) ++ (Value.int .u8 0 :: (numF n (3 - j)).flatMap encB) := by
    unfold cellsK
    rw [List.replicate_succ', show 4 - (j + 1) = 3 - j from by omega, List.append_assoc]; rfl
  have e2 : cellsK n j = List.replicate j (Value.int .u8 0) ++ (Value.int .u8 (byteAt n (3 - j)).toNat :: (numF n (3 - j)).flatMap encB) := by
    unfold cellsK
    rw [show 4 - j = (3 - j) + 1 from by omega]; rfl
  rw [e1, e2, show 0 + (j : Int).toNat * 1 = (List.replicate j (Value.int .u8 0)).length + 0 from by simp]
  exact SetSeg.pre (.take .done) _
theorem num_byte {n N : Int} (h0 : 0 ≤ n) (k : Nat) (hN : N = n / 256 ^ k) : IntKind.wrap .u8 (N % 256) = ((byteAt n k).toNat : Int) := by
  obtain ⟨m, rfl⟩ := Int.eq_ofNat_of_zero_le h0
  unfold byteAt
  rw [wrap_u8, UInt8.toNat_ofNat', Int.toNat_natCast, hN]
  have h1 : (256 : Int) ^ k = ((2 ^ (8 * k) : Nat) : Int) := by
    rw [Nat.pow_mul]; simp
  rw [h1, ← Int.natCast_ediv]
  omega
theorem num_next {n N : Int} (k : Nat) (hN : N = n / 256 ^ k) : N / 256 = n / 256 ^ (k + 1) := by
  rw [hN, Int.ediv_ediv, if_neg (fun h => Int.not_lt.2 (Int.le_of_lt (Int.pow_pos (by decide))) h.1), Int.pow_succ, Int.sub_zero]
theorem num_seg (n : Int) : Seg (cellsK n 0).toArray 0 ((numF n 4).flatMap encB) := by
  intro i hi
  rw [Nat.zero_add, List.getElem?_toArray]; rfl

theorem rnum_ca (n : Int) (h0 : 0 ≤ n) (h1 : n ≤ 18446744073709551615) (O : Out) (L : List Blk) :
    CA Try.prog 54 [.slice none 0 0, .int .u64 n, I 4] O L fun v L' => ∃ B, OwnL 5 encB 1 v (numF n 4) B ∧ L' = B ++ L := by
  refine ca_enter Try.func54 rfl rfl ?_
  rw [Try.ntmps54]
  simp only [envOf]
  refine cg_seq ?_
  refine cg_region ?_
  refine rg_q (.inl rfl) rfl rfl (by exact QW.qr (qw_assign rfl)) ?_
  refine rg_nil ?_
  refine qg_then ?_
  refine cg_seq ?_
  refine cg_region ?_
  refine rg_q (.inl rfl) rfl rfl (by exact QW.qr (qw_move rfl)) ?_
  refine rg_e (.inl rfl) rfl rfl (by exact ev_makeSlice rfl rfl rfl (by decide) (by decide) (by decide) (by decide)) ?_
  rintro _ _ ⟨b10, rfl, rfl⟩
  refine rg_q (.inl rfl) rfl rfl (by exact QW.qr (qw_assign rfl)) ?_
  refine rg_nil ?_
  refine qg_then ?_
  refine cg_seq ?_
  refine cg_seq ?_
  refine cg_region ?_
  refine rg_q (.inl rfl) rfl rfl (by exact QW.qr (qw_move rfl)) ?_
  refine rg_q (.inl rfl) rfl rfl (by exact QW.qr (qw_sub_in rfl rfl (by unfold inK; omega))) ?_
  refine rg_q (.inl rfl) rfl rfl (by exact QW.qr (qw_assign rfl)) ?_
  refine rg_nil ?_
  refine qg_then ?_
  refine cg_block ?_
  refine cg_loop (fun E' L' m => ∃ (k : Nat) (N : Int), k ≤ 4 ∧ N = n / 256 ^ (4 - k) ∧ E' = [(0, .slice none 0 0), (1, .int .u64 N), (7, .slice (some ⟨b10, 0, none⟩) 4 4), (8, I ((k : Int) - 1))] ∧ L' = (b10, .cells (cellsK n k).toArray 5 (0, 0)) :: L ∧ m = k + 1)
    _ _ _ ⟨4, n, Nat.le_refl 4, by simp, rfl, rfl, rfl⟩ (by repeat (first | exact Sub.nil | refine Sub.cons rfl ?_ | refine Sub.cons (congrArg (fun z => some (Value.int IntKind.i64 z)) (by omega)) ?_)) (List.Perm.refl _) ?_
  rintro _ _ _ ⟨k, N, hk, hN, rfl, rfl, rfl⟩
  have hN0 : 0 ≤ N := by rw [hN]; exact Int.ediv_nonneg h0 (Int.le_of_lt (Int.pow_pos (by decide)))
  have hN1 : N ≤ n := by rw [hN]; exact Int.ediv_le_self _ h0
  refine cg_seq ?_
  refine cg_seq ?_
  refine cg_region ?_
  refine rg_q (.inl rfl) rfl rfl (by exact QW.qr (qw_move rfl)) ?_
  refine rg_split (.inl rfl) rfl rfl (by exact qc_geq rfl rfl) ?_ ?_
  · intro hge
    obtain ⟨j, rfl⟩ : ∃ j, k = j + 1 := ⟨k - 1, by omega⟩
    rw [show (((j + 1 : Nat) : Int) - 1) = (j : Int) from by omega]
    have hj : j < 4 := by omega
    have hN' : N = n / 256 ^ (3 - j) := by rw [hN]; congr 2; omega
    refine rg_nil ?_
    refine qg_then ?_
    refine cg_true rfl ?_
    refine cg_skip ?_
    refine qg_then ?_
    refine cg_seq ?_
    refine cg_block ?_
    refine cg_seq ?_
    refine cg_region ?_
    refine rg_q (.inl rfl) rfl rfl (by exact QW.qr (qw_move rfl)) ?_
    refine rg_q (.inl rfl) rfl rfl (by exact QW.qr (qw_move rfl)) ?_
    refine rg_q (.inl rfl) rfl rfl (by exact QW.qr (qw_move rfl)) ?_
    refine rg_q (.inl rfl) rfl rfl (by exact QW.qr (qw_rem_pos rfl rfl (by omega) (by omega))) ?_
    refine rg_q (.inl rfl) rfl rfl (by exact QW.qr (qw_val (qw_conv rfl) (congrArg (Value.int .u8) (num_byte h0 (3 - j) hN')))) ?_
    refine rg_q (.inl rfl) rfl rfl (by exact QW.qr (qw_indexAddr rfl rfl (by omega) (by omega))) ?_
    refine rg_e0 (.inl rfl) rfl (by exact ev_store rfl rfl (CellsOf.one rfl) (List.Mem.head _) (num_set n j hj) rfl rfl Upd.here (by first | exact Or.inl ⟨inferInstance, rfl⟩ | exact Or.inr inferInstance)) ?_
    rintro _ _ ⟨rfl, rfl⟩
    refine rg_nil ?_
    refine qg_then ?_
    refine cg_region ?_
    refine rg_q (.inl rfl) rfl rfl (by exact QW.qr (qw_move rfl)) ?_
    refine rg_q (.inl rfl) rfl rfl (by exact QW.qr (qw_quo_pos rfl rfl (by omega) (by omega) (by unfold inK; omega))) ?_
    refine rg_q (.inl rfl) rfl rfl (by exact QW.qr (qw_assign rfl)) ?_
    refine rg_nil ?_
    refine qg_block ?_
    refine qg_then ?_
    refine cg_region ?_
    refine rg_q (.inl rfl) rfl rfl (by exact QW.qr (qw_move rfl)) ?_
    refine rg_q (.inl rfl) rfl rfl (by exact QW.qr (qw_sub_in rfl rfl (by unfold inK; omega))) ?_
    refine rg_q (.inl rfl) rfl rfl (by exact QW.qr (qw_assign rfl)) ?_
    refine rg_nil ?_
    exact qg_round_sp _ _ _ ⟨j, N / 256, by omega, by rw [num_next (3 - j) (by rw [hN]; congr 2; omega)]; congr 2; omega, rfl, rfl, rfl⟩ (by repeat (first | exact Sub.nil | refine Sub.cons rfl ?_ | refine Sub.cons (congrArg (fun z => some (Value.int IntKind.i64 z)) (by omega)) ?_)) (SubP.of (List.Sublist.refl _)) (by omega)
  · intro hge
    obtain rfl : k = 0 := by omega
    refine rg_nil ?_
    refine qg_then ?_
    refine cg_false rfl ?_
    refine cg_exit ?_
    refine qg_then_exit ?_
    refine qg_then_exit ?_
    refine qg_block_here ?_
    refine qg_then ?_
    refine cg_seq ?_
    refine cg_region ?_
    refine rg_e (.inl rfl) rfl rfl (by exact ev_buildSlice (.nil) rfl (by first | exact CellsOf.agg | exact CellsOf.one rfl) (by rfl) (.nil)) ?_
    rintro _ _ ⟨b25, rfl, rfl⟩
    refine rg_q (.inl rfl) rfl rfl (by exact QW.qr (qw_move rfl)) ?_
    rw [rep8]
    refine rg_e (.inl rfl) rfl rfl (by exact ev_appendL (xs := []) (ys := []) (T := 36) (T2 := 36) (B := [(b25, _)]) (.cons rfl (.cons rfl .nil)) rfl rfl (own0B b25) (R := (b10, _) :: L) (List.Perm.refl _) .nil (fun _ => rfl) encB_one (by decide) rfl rfl rfl rfl) ?_
    rintro ov _ ⟨B1, ho1, rfl⟩
    refine rg_q (.inl rfl) rfl rfl (by exact QW.qr (qw_move rfl)) ?_
    refine rg_e (.inl rfl) rfl rfl (by exact ev_appendL (xs := []) (ys := numF n 4) (T := 36) (T2 := 36) (.cons rfl (.cons rfl .nil)) rfl rfl ho1 (R := (b10, _) :: L) (List.Perm.refl _) (.row (m := 4) (List.Mem.head _) (num_seg n) (by rw [flat_length (enc := encB) (k := 1) (fun _ => rfl), numF_len])) (fun _ => rfl) encB_one (by rw [numF_len]; decide) rfl rfl rfl rfl) ?_
    rintro ov2 _ ⟨B2, ho2, rfl⟩
    refine rg_q (.inl rfl) rfl rfl (by exact QW.qr (qw_assign rfl)) ?_
    refine rg_nil ?_
    refine qg_then ?_
    refine cg_ret ?_
    exact qg_end_sp (.inl rfl) _ (.cons (.tmp rfl) (.nil)) _ (SubP.of (List.Sublist.append_left (List.sublist_cons_self _ _) B2)) ⟨B2, ho2, rfl⟩

theorem rrecord_ca (kind : UInt8) (name val : Bytes) (hnl : name.length ≤ 100000) (hvl : val.length ≤ 600000) (O : Out) (L : List Blk) :
    CA Try.prog 48 [.int .u8 kind.toNat, encStr name, encStr val] O L fun v L' => ∃ B, OwnL 5 encB 1 v (recF kind name val) B ∧ L' = B ++ L := by
  refine ca_enter Try.func48 rfl rfl ?_
  rw [Try.ntmps48]
  simp only [envOf]
  refine cg_seq ?_
  refine cg_region ?_
  refine rg_q (.inl rfl) rfl rfl (by exact QW.qr (qw_assign rfl)) ?_
  refine rg_nil ?_
  refine qg_then ?_
  refine cg_seq ?_
  refine cg_region ?_
  refine rg_q (.inl rfl) rfl rfl (by exact QW.qr (qw_move rfl)) ?_
  refine rg_q (.inl rfl) rfl rfl (by exact QW.qr (qw_len_enc (t := 9) (.cons rfl .nil) rfl)) ?_
  refine rg_q (.inl rfl) rfl rfl (by exact QW.qr (qw_add_in rfl rfl (by unfold inK; omega))) ?_
  refine rg_q (.inl rfl) rfl rfl (by exact QW.qr (qw_move rfl)) ?_
  refine rg_q (.inl rfl) rfl rfl (by exact QW.qr (qw_len_enc (t := 9) (.cons rfl .nil) rfl)) ?_
  refine rg_q (.inl rfl) rfl rfl (by exact QW.qr (qw_add_in rfl rfl (by unfold inK; omega))) ?_
  refine rg_q (.inl rfl) rfl rfl (by exact QW.qr (qw_conv_in rfl (by unfold inK; omega))) ?_
  refine rg_e (.inl rfl) rfl rfl (by exact ev_call0 rfl (.cons rfl (.cons rfl (.cons rfl (.nil)))) (rnum_ca (2 + (name.length : Int) + val.length) (by omega) (by omega) O _)) ?_
  rintro ov1 _ ⟨B1, ho1, rfl⟩
  have hl4 := numF_len (2 + (name.length : Int) + val.length) 4
  refine rg_q (.inl rfl) rfl rfl (by exact QW.qr (qw_assign rfl)) ?_
  refine rg_nil ?_
  refine qg_then ?_
  refine cg_seq ?_
  refine cg_region ?_
  refine rg_q (.inl rfl) rfl rfl (by exact QW.qr (qw_move rfl)) ?_
  refine rg_q (.inl rfl) rfl rfl (by exact QW.qr (qw_move rfl)) ?_
  refine rg_q (.inl rfl) rfl rfl (by exact QW.qr (qw_move rfl)) ?_
  refine rg_q (.inl rfl) rfl rfl (by exact QW.qr (qw_len_enc (t := 9) (.cons rfl .nil) rfl)) ?_
  refine rg_q (.inl rfl) rfl rfl (by exact QW.qr (qw_val (qw_conv rfl) (congrArg (Value.int .u8) (wrap_u8_nat name.length)))) ?_
  refine rg_e (.inl rfl) rfl rfl (by exact ev_buildSlice (.cons rfl (.cons rfl (.nil))) rfl (by first | exact CellsOf.agg | exact CellsOf.one rfl) (by rfl) (.cons rfl (by first | exact CellsOf.agg | exact CellsOf.one rfl) (by repeat (first | exact SetSeg.done | apply SetSeg.take | apply SetSeg.skip)) (by rfl) (by rfl) (.cons rfl (by first | exact CellsOf.agg | exact CellsOf.one rfl) (by repeat (first | exact SetSeg.done | apply SetSeg.take | apply SetSeg.skip)) (by rfl) (by rfl) (.nil)))) ?_
  rintro _ _ ⟨b21, rfl, rfl⟩
  refine rg_e (.inl rfl) rfl rfl (by exact ev_appendL (ys := [kind, UInt8.ofNat name.length]) (T := 36) (T2 := 36) (.cons rfl (.cons rfl .nil)) rfl rfl ho1 (R := cat [[(b21, _)]] L) (cat_perm (ls' := [B1, [(b21, _)]]) (ls := [[(b21, _)], B1]) (by repeat (first | exact PermM.nil | refine PermM.cons (by repeat (first | exact Ins.here | apply Ins.there)) ?_))) (.row (List.Mem.head _) (SegL.seg (m := 2) (by repeat (first | exact SegL.done | apply SegL.take | apply SegL.skip))).1 rfl) (fun _ => rfl) encB_one (by simp only [List.length_cons, List.length_nil]; omega) rfl rfl rfl rfl) ?_
  rintro ov2 _ ⟨B2, ho2, rfl⟩
  refine rg_q (.inl rfl) rfl rfl (by exact QW.qr (qw_assign rfl)) ?_
  refine rg_nil ?_
  refine qg_then ?_
  refine cg_seq ?_
  refine cg_region ?_
  refine rg_q (.inl rfl) rfl rfl (by exact QW.qr (qw_move rfl)) ?_
  refine rg_q (.inl rfl) rfl rfl (by exact QW.qr (qw_move rfl)) ?_
  refine rg_e (.inl rfl) rfl rfl (by exact ev_strToBytes rfl) ?_
  rintro nv _ ⟨Bn, hn, rfl⟩
  replace hn : RdL Bn encB 1 nv name := hn
  refine rg_e (.inl rfl) rfl rfl (by exact ev_appendL (ys := name) (T := 36) (T2 := 36) (.cons rfl (.cons rfl .nil)) rfl rfl ho2 (R := cat [Bn, [(b21, _)]] L) (cat_perm (ls' := [B2, Bn, [(b21, _)]]) (ls := [Bn, B2, [(b21, _)]]) (by repeat (first | exact PermM.nil | refine PermM.cons (by repeat (first | exact Ins.here | apply Ins.there)) ?_))) (hn.mono (fun q hq => mem_cat (s := Bn) (by repeat (first | exact List.Mem.head _ | apply List.Mem.tail)) hq)).src (fun _ => rfl) encB_one (by rw [List.length_append]; simp only [List.length_cons, List.length_nil]; omega) rfl rfl rfl rfl) ?_
  rintro ov3 _ ⟨B3, ho3, rfl⟩
  refine rg_q (.inl rfl) rfl rfl (by exact QW.qr (qw_move rfl)) ?_
  refine rg_e (.inl rfl) rfl rfl (by exact ev_strToBytes rfl) ?_
  rintro vv _ ⟨Bv, hv, rfl⟩
  replace hv : RdL Bv encB 1 vv val := hv
  refine rg_e (.inl rfl) rfl rfl (by exact ev_appendL (ys := val) (T := 36) (T2 := 36) (.cons rfl (.cons rfl .nil)) rfl rfl ho3 (R := cat [Bv, Bn, [(b21, _)]] L) (cat_perm (ls' := [B3, Bv, Bn, [(b21, _)]]) (ls := [Bv, B3, Bn, [(b21, _)]]) (by repeat (first | exact PermM.nil | refine PermM.cons (by repeat (first | exact Ins.here | apply Ins.there)) ?_))) (hv.mono (fun q hq => mem_cat (s := Bv) (by repeat (first | exact List.Mem.head _ | apply List.Mem.tail)) hq)).src (fun _ => rfl) encB_one (by rw [List.length_append, List.length_append]; simp only [List.length_cons, List.length_nil]; omega) rfl rfl rfl rfl) ?_
  rintro ov4 _ ⟨B4, ho4, rfl⟩
  refine rg_q (.inl rfl) rfl rfl (by exact QW.qr (qw_assign rfl)) ?_
  refine rg_nil ?_
  refine qg_then ?_
  refine cg_seq ?_
  refine cg_region ?_
  refine rg_q (.inl rfl) rfl rfl (by exact QW.qr (qw_move rfl)) ?_
  refine rg_e (.inl rfl) rfl rfl (by exact ev_buildSlice (.cons rfl (.nil)) rfl (by first | exact CellsOf.agg | exact CellsOf.one rfl) (by rfl) (.cons rfl (by first | exact CellsOf.agg | exact CellsOf.one rfl) (by repeat (first | exact SetSeg.done | apply SetSeg.take | apply SetSeg.skip)) (by rfl) (by rfl) (.nil))) ?_
  rintro _ _ ⟨b31, rfl, rfl⟩
  refine rg_e (.inl rfl) rfl rfl (by exact ev_appendL (ys := [165]) (T := 36) (T2 := 36) (.cons rfl (.cons rfl .nil)) rfl rfl ho4 (R := cat [[(b31, _)], Bv, Bn, [(b21, _)]] L) (cat_perm (ls' := [B4, [(b31, _)], Bv, Bn, [(b21, _)]]) (ls := [[(b31, _)], B4, Bv, Bn, [(b21, _)]]) (by repeat (first | exact PermM.nil | refine PermM.cons (by repeat (first | exact Ins.here | apply Ins.there)) ?_))) (.row (List.Mem.head _) (SegL.seg (m := 1) (by repeat (first | exact SegL.done | apply SegL.take | apply SegL.skip))).1 rfl) (fun _ => rfl) encB_one (by rw [List.length_append, List.length_append, List.length_append]; simp only [List.length_cons, List.length_nil]; omega) rfl rfl rfl rfl) ?_
  rintro ov5 _ ⟨B5, ho5, rfl⟩
  refine rg_q (.inl rfl) rfl rfl (by exact QW.qr (qw_assign rfl)) ?_
  refine rg_nil ?_
  refine qg_then ?_
  refine cg_ret ?_
  exact qg_end_sp (.inl rfl) _ (.cons (.tmp rfl) (.nil)) _ (cat_sub (ls' := [B5]) (ls := [B5, [(b31, _)], Bv, Bn, [(b21, _)]]) (by repeat (first | exact SubM.nil | refine SubM.cons (by repeat (first | exact Ins.here | apply Ins.there)) ?_))) ⟨B5, ho5, rfl⟩

theorem rputE_ca (x : Bytes × Bytes) (l : Kept) (lv : Value) (O : Out) (L : List Blk) (hl : RdL L encE 2 lv l) (hsz : l.length ≤ 300000) :
    CA Try.prog 49 [lv, .agg #[encStr x.1, encStr x.2]] O L fun v L' => ∃ B, OwnL 100 encE 2 v (putGo x l false) B ∧ L' = B ++ L := by
  obtain ⟨p, cap, rfl, _, _, _, hR⟩ := id hl
  refine ca_enter Try.func49 rfl rfl ?_
  rw [Try.ntmps49]
  simp only [envOf]
  refine cg_seq ?_
  refine cg_region ?_
  refine rg_e (.inl rfl) rfl rfl (by exact ev_box rfl (by first | exact CellsOf.agg | exact CellsOf.one rfl)) ?_
  rintro _ _ ⟨b3, rfl, rfl⟩
  refine rg_q (.inl rfl) rfl rfl (by exact QW.qr (qw_assign rfl)) ?_
  refine rg_nil ?_
  refine qg_then ?_
  refine cg_seq ?_
  refine cg_region ?_
  refine rg_q (.inl rfl) rfl rfl (by exact QW.qr (qw_assign rfl)) ?_
  refine rg_nil ?_
  refine qg_then ?_
  refine cg_seq ?_
  refine cg_region ?_
  refine rg_q (.inl rfl) rfl rfl (by exact QW.qr (qw_assign rfl)) ?_
  refine rg_nil ?_
  refine qg_then ?_
  refine cg_seq ?_
  refine cg_seq ?_
  refine cg_region ?_
  refine rg_q (.inl rfl) rfl rfl (by exact QW.qr (qw_assign rfl)) ?_
  refine rg_nil ?_
  refine qg_then ?_
  refine cg_block ?_
  refine cg_loop (fun E' L' m => ∃ (i : Nat) (done : Bool) (ov : Value) (acc : Kept) (B : List Blk), i ≤ l.length ∧ acc.length ≤ 2 * i ∧ acc ++ putGo x (l.drop i) done = putGo x l false ∧ OwnL 100 encE 2 ov acc B ∧ E' = [(0, .slice p l.length cap), (3, PT b3), (5, ov), (6, .bool done), (7, I i)] ∧ L' = cat [[(b3, .cells [encStr x.1, encStr x.2].toArray 100 (0, 0))], B] L ∧ m = l.length - i)
    _ _ _ ⟨0, false, _, [], [], by omega, by simp, rfl, OwnL.nil, rfl, rfl, rfl⟩ (by repeat (first | exact Sub.nil | refine Sub.cons rfl ?_ | refine Sub.cons (congrArg (fun z => some (Value.int IntKind.i64 z)) (by omega)) ?_)) (List.Perm.refl _) ?_
  rintro _ _ _ ⟨i, done, ov, acc, B, hi, hacc, hput, hown, rfl, rfl, rfl⟩
  obtain ⟨po, co, rfl, _⟩ := id (hown.rd (fun _ => rfl) (by decide))
  unfold PT
  refine cg_seq ?_
  refine cg_seq ?_
  refine cg_region ?_
  refine rg_q (.inl rfl) rfl rfl (by exact QW.qr (qw_move rfl)) ?_
  refine rg_q (.inl rfl) rfl rfl (by exact QW.qr (qw_move rfl)) ?_
  refine rg_q (.inl rfl) rfl rfl (by exact QW.qr (qw_len_slice (t := 89) (.cons rfl (.nil)) rfl)) ?_
  refine rg_split (.inl rfl) rfl rfl (by exact qc_lss rfl rfl) ?_ ?_
  · intro hlt
    have hil : i < l.length := by omega
    obtain ⟨bN, oN, AN, tN, fN, rfl, hmN, hsN⟩ := hR (by omega)
    have hel : Seg AN (oN + (i : Int).toNat * 2) [encStr l[i].1, encStr l[i].2] := hsN.elem (enc := encE) (k := 2) (fun _ => rfl) hil
    have hg0 : AN[oN + (i : Int).toNat * 2 + 0]? = some (encStr l[i].1) := hel.get (i := 0) rfl
    have hg1 : AN[oN + (i : Int).toNat * 2 + 1]? = some (encStr l[i].2) := hel.get (i := 1) rfl
    rw [List.drop_eq_getElem_cons hil] at hput
    refine rg_nil ?_
    refine qg_then ?_
    refine cg_true rfl ?_
    refine cg_skip ?_
    refine qg_then ?_
    refine cg_seq ?_
    refine cg_block ?_
    refine cg_seq ?_
    refine cg_seq ?_
    cases done
    · skip
      refine cg_draw follows (.op 0 false (.op 1 false (.op 2 false (.op 3 false (.op 4 false (.op 5 false (.op 6 false (.op 7 false (.op 8 false (.op 9 false (.op 10 false (.op 11 false .done)))))))))))) _ (by kernel_rfl) (SubP.of (List.Sublist.refl _)) ?_
      refine dg_w rfl rfl (.inl rfl) rfl rfl (by exact qw_move rfl) ?_
      refine dg_w rfl rfl (.inl rfl) rfl rfl (by exact qw_not rfl) ?_
      refine dg_w rfl rfl (.inl rfl) rfl rfl (by exact qw_move rfl) ?_
      refine dg_w rfl rfl (.inr (guard_mk rfl rfl rfl rfl)) rfl rfl (by exact qw_move rfl) ?_
      refine dg_w rfl rfl (.inr (guard_mk rfl rfl rfl rfl)) rfl rfl (by exact qw_move rfl) ?_
      refine dg_w rfl rfl (.inr (guard_mk rfl rfl rfl rfl)) rfl rfl (by exact qw_indexAddr rfl rfl (by omega) (by omega)) ?_
      refine dg_w rfl rfl (.inr (guard_mk rfl rfl rfl rfl)) rfl rfl (by exact qw_fieldAddr rfl) ?_
      refine dg_r rfl rfl rfl (.inr (guard_mk rfl rfl rfl rfl)) rfl rfl (by exact qr_load1' rfl (by repeat (first | exact List.Mem.head _ | apply List.Mem.tail | apply List.mem_append_right | assumption)) hg0) ?_
      refine dg_w rfl rfl (.inr (guard_mk rfl rfl rfl rfl)) rfl rfl (by exact qw_fieldAddr rfl) ?_
      refine dg_r rfl rfl rfl (.inr (guard_mk rfl rfl rfl rfl)) rfl rfl (by exact qr_load1 rfl (by repeat (first | exact List.Mem.head _ | apply List.Mem.tail | apply List.mem_append_right | assumption)) rfl) ?_
      refine dg_split rfl rfl (.inr (guard_mk rfl rfl rfl rfl)) rfl rfl (by exact qc_geq_str rfl rfl) ?_ ?_
      · intro hge
        rw [putGo_a hge] at hput
        refine dg_w rfl rfl (.inl rfl) rfl rfl (by exact qw_pick_t rfl rfl) ?_
        refine dg_nil ?_
        refine qg_then ?_
        refine cg_true rfl ?_
        refine cg_seq ?_
        refine cg_region ?_
        refine rg_q (.inl rfl) rfl rfl (by exact QW.qr (qw_move rfl)) ?_
        refine rg_q (.inl rfl) rfl rfl (by exact qr_loadN rfl (by repeat (first | exact List.Mem.head _ | apply List.Mem.tail | apply List.mem_append_right | assumption)) (by repeat (first | exact SegL.done | apply SegL.take | apply SegL.skip))) ?_
        refine rg_e (.inl rfl) rfl rfl (by exact ev_buildSlice (.cons rfl (.nil)) rfl (by first | exact CellsOf.agg | exact CellsOf.one rfl) (by rfl) (.cons rfl (by first | exact CellsOf.agg | exact CellsOf.one rfl) (by repeat (first | exact SetSeg.done | apply SetSeg.take | apply SetSeg.skip)) (by rfl) (by rfl) (.nil))) ?_
        rintro _ _ ⟨b28, rfl, rfl⟩
        refine rg_e (.inl rfl) rfl rfl (by exact ev_appendL (ys := [x]) (T := 89) (T2 := 89) (.cons rfl (.cons rfl .nil)) rfl rfl hown (R := cat [[(b28, _)], [(b3, _)]] L) (cat_perm (ls' := [B, [(b28, _)], [(b3, _)]]) (ls := [[(b28, _)], [(b3, _)], B]) (by repeat (first | exact PermM.nil | refine PermM.cons (by repeat (first | exact Ins.here | apply Ins.there)) ?_))) (.row (List.Mem.head _) (SegL.seg (m := 2) (by repeat (first | exact SegL.done | apply SegL.take | apply SegL.skip))).1 rfl) (fun _ => rfl) encE_one (by first | omega | (simp only [List.length_append, List.length_cons, List.length_nil]; omega)) rfl rfl rfl rfl) ?_
        rintro ov2 _ ⟨B2, hown2, rfl⟩
        obtain ⟨po2, co2, rfl, _⟩ := id (hown2.rd (fun _ => rfl) (by decide))
        refine rg_q (.inl rfl) rfl rfl (by exact QW.qr (qw_assign rfl)) ?_
        refine rg_nil ?_
        refine qg_then ?_
        refine cg_region ?_
        refine rg_q (.inl rfl) rfl rfl (by exact QW.qr (qw_assign rfl)) ?_
        refine rg_nil ?_
        refine qg_then ?_
        refine cg_seq ?_
        refine cg_draw follows (.op 0 false (.op 1 false (.op 2 false (.op 3 false (.op 4 false (.op 5 false (.op 6 false (.op 7 false .done)))))))) _ (by kernel_rfl) (SubP.of (List.Sublist.refl _)) ?_
        refine dg_w rfl rfl (.inl rfl) rfl rfl (by exact qw_move rfl) ?_
        refine dg_w rfl rfl (.inl rfl) rfl rfl (by exact qw_move rfl) ?_
        refine dg_w rfl rfl (.inl rfl) rfl rfl (by exact qw_indexAddr rfl rfl (by omega) (by omega)) ?_
        refine dg_w rfl rfl (.inl rfl) rfl rfl (by exact qw_fieldAddr rfl) ?_
        refine dg_r rfl rfl rfl (.inl rfl) rfl rfl (by exact qr_load1' rfl (by repeat (first | exact List.Mem.head _ | apply List.Mem.tail | apply List.mem_append_right | assumption)) hg0) ?_
        refine dg_w rfl rfl (.inl rfl) rfl rfl (by exact qw_fieldAddr rfl) ?_
        refine dg_r rfl rfl rfl (.inl rfl) rfl rfl (by exact qr_load1 rfl (by repeat (first | exact List.Mem.head _ | apply List.Mem.tail | apply List.mem_append_right | assumption)) rfl) ?_
        refine dg_split rfl rfl (.inl rfl) rfl rfl (by exact qc_neq_str rfl rfl) ?_ ?_
        · intro hne
          rw [if_pos hne] at hput
          refine dg_nil ?_
          refine qg_then ?_
          refine cg_true rfl ?_
          refine cg_region ?_
          refine rg_q (.inl rfl) rfl rfl (by exact QW.qr (qw_move rfl)) ?_
          refine rg_q (.inl rfl) rfl rfl (by exact QW.qr (qw_move rfl)) ?_
          refine rg_q (.inl rfl) rfl rfl (by exact QW.qr (qw_move rfl)) ?_
          refine rg_q (.inl rfl) rfl rfl (by exact QW.qr (qw_indexAddr rfl rfl (by omega) (by omega))) ?_
          refine rg_q (.inl rfl) rfl rfl (by exact qr_loadS rfl (by repeat (first | exact List.Mem.head _ | apply List.Mem.tail | apply List.mem_append_right | assumption)) hel rfl) ?_
          refine rg_e (.inl rfl) rfl rfl (by exact ev_buildSlice (.cons rfl (.nil)) rfl (by first | exact CellsOf.agg | exact CellsOf.one rfl) (by rfl) (.cons rfl (by first | exact CellsOf.agg | exact CellsOf.one rfl) (by repeat (first | exact SetSeg.done | apply SetSeg.take | apply SetSeg.skip)) (by rfl) (by rfl) (.nil))) ?_
          rintro _ _ ⟨b43, rfl, rfl⟩
          refine rg_e (.inl rfl) rfl rfl (by exact ev_appendL (ys := [l[i]]) (T := 89) (T2 := 89) (.cons rfl (.cons rfl .nil)) rfl rfl hown2 (R := cat [[(b43, _)], [(b28, _)], [(b3, _)]] L) (cat_perm (ls' := [B2, [(b43, _)], [(b28, _)], [(b3, _)]]) (ls := [[(b43, _)], B2, [(b28, _)], [(b3, _)]]) (by repeat (first | exact PermM.nil | refine PermM.cons (by repeat (first | exact Ins.here | apply Ins.there)) ?_))) (.row (List.Mem.head _) (SegL.seg (m := 2) (by repeat (first | exact SegL.done | apply SegL.take | apply SegL.skip))).1 rfl) (fun _ => rfl) encE_one (by first | omega | (simp only [List.length_append, List.length_cons, List.length_nil]; omega)) rfl rfl rfl rfl) ?_
          rintro ov3 _ ⟨B3, hown3, rfl⟩
          refine rg_q (.inl rfl) rfl rfl (by exact QW.qr (qw_assign rfl)) ?_
          refine rg_nil ?_
          refine qg_block ?_
          refine qg_then ?_
          refine cg_region ?_
          refine rg_q (.inl rfl) rfl rfl (by exact QW.qr (qw_move rfl)) ?_
          refine rg_q (.inl rfl) rfl rfl (by exact QW.qr (qw_add_in rfl rfl (by unfold inK; omega))) ?_
          refine rg_q (.inl rfl) rfl rfl (by exact QW.qr (qw_assign rfl)) ?_
          refine rg_nil ?_
          exact qg_round_sp _ _ _ ⟨i + 1, true, _, _, B3, by omega, by first | omega | (simp only [List.length_append, List.length_cons, List.length_nil]; omega), by simpa [List.append_assoc] using hput, hown3, rfl, rfl, rfl⟩ (by repeat (first | exact Sub.nil | refine Sub.cons rfl ?_ | refine Sub.cons (congrArg (fun z => some (Value.int IntKind.i64 z)) (by omega)) ?_)) (cat_sub (ls' := [[(b3, _)], B3]) (ls := [B3, [(b43, _)], [(b28, _)], [(b3, _)]]) (by repeat (first | exact SubM.nil | refine SubM.cons (by repeat (first | exact Ins.here | apply Ins.there)) ?_))) (by omega)
        · intro hne
          rw [if_neg hne, List.nil_append] at hput
          refine dg_nil ?_
          refine qg_then ?_
          refine cg_false rfl ?_
          refine cg_skip ?_
          refine qg_block ?_
          refine qg_then ?_
          refine cg_region ?_
          refine rg_q (.inl rfl) rfl rfl (by exact QW.qr (qw_move rfl)) ?_
          refine rg_q (.inl rfl) rfl rfl (by exact QW.qr (qw_add_in rfl rfl (by unfold inK; omega))) ?_
          refine rg_q (.inl rfl) rfl rfl (by exact QW.qr (qw_assign rfl)) ?_
          refine rg_nil ?_
          exact qg_round_sp _ _ _ ⟨i + 1, true, _, _, B2, by omega, by first | omega | (simp only [List.length_append, List.length_cons, List.length_nil]; omega), by simpa [List.append_assoc] using hput, hown2, rfl, rfl, rfl⟩ (by repeat (first | exact Sub.nil | refine Sub.cons rfl ?_ | refine Sub.cons (congrArg (fun z => some (Value.int IntKind.i64 z)) (by omega)) ?_)) (cat_sub (ls' := [[(b3, _)], B2]) (ls := [B2, [(b28, _)], [(b3, _)]]) (by repeat (first | exact SubM.nil | refine SubM.cons (by repeat (first | exact Ins.here | apply Ins.there)) ?_))) (by omega)
      · intro hge
        rw [putGo_b hge] at hput
        refine dg_w rfl rfl (.inl rfl) rfl rfl (by exact qw_pick_t rfl rfl) ?_
        refine dg_nil ?_
        refine qg_then ?_
        refine cg_false rfl ?_
        refine cg_skip ?_
        refine qg_then ?_
        refine cg_seq ?_
        refine cg_draw follows (.op 0 false (.op 1 false (.op 2 false (.op 3 false (.op 4 false (.op 5 false (.op 6 false (.op 7 false .done)))))))) _ (by kernel_rfl) (SubP.of (List.Sublist.refl _)) ?_
        refine dg_w rfl rfl (.inl rfl) rfl rfl (by exact qw_move rfl) ?_
        refine dg_w rfl rfl (.inl rfl) rfl rfl (by exact qw_move rfl) ?_
        refine dg_w rfl rfl (.inl rfl) rfl rfl (by exact qw_indexAddr rfl rfl (by omega) (by omega)) ?_
        refine dg_w rfl rfl (.inl rfl) rfl rfl (by exact qw_fieldAddr rfl) ?_
        refine dg_r rfl rfl rfl (.inl rfl) rfl rfl (by exact qr_load1' rfl (by repeat (first | exact List.Mem.head _ | apply List.Mem.tail | apply List.mem_append_right | assumption)) hg0) ?_
        refine dg_w rfl rfl (.inl rfl) rfl rfl (by exact qw_fieldAddr rfl) ?_
        refine dg_r rfl rfl rfl (.inl rfl) rfl rfl (by exact qr_load1 rfl (by repeat (first | exact List.Mem.head _ | apply List.Mem.tail | apply List.mem_append_right | assumption)) rfl) ?_
        refine dg_split rfl rfl (.inl rfl) rfl rfl (by exact qc_neq_str rfl rfl) ?_ ?_
        · intro hne
          rw [if_pos hne] at hput
          refine dg_nil ?_
          refine qg_then ?_
          refine cg_true rfl ?_
          refine cg_region ?_
          refine rg_q (.inl rfl) rfl rfl (by exact QW.qr (qw_move rfl)) ?_
          refine rg_q (.inl rfl) rfl rfl (by exact QW.qr (qw_move rfl)) ?_
          refine rg_q (.inl rfl) rfl rfl (by exact QW.qr (qw_move rfl)) ?_
          refine rg_q (.inl rfl) rfl rfl (by exact QW.qr (qw_indexAddr rfl rfl (by omega) (by omega))) ?_
          refine rg_q (.inl rfl) rfl rfl (by exact qr_loadS rfl (by repeat (first | exact List.Mem.head _ | apply List.Mem.tail | apply List.mem_append_right | assumption)) hel rfl) ?_
          refine rg_e (.inl rfl) rfl rfl (by exact ev_buildSlice (.cons rfl (.nil)) rfl (by first | exact CellsOf.agg | exact CellsOf.one rfl) (by rfl) (.cons rfl (by first | exact CellsOf.agg | exact CellsOf.one rfl) (by repeat (first | exact SetSeg.done | apply SetSeg.take | apply SetSeg.skip)) (by rfl) (by rfl) (.nil))) ?_
          rintro _ _ ⟨b43, rfl, rfl⟩
          refine rg_e (.inl rfl) rfl rfl (by exact ev_appendL (ys := [l[i]]) (T := 89) (T2 := 89) (.cons rfl (.cons rfl .nil)) rfl rfl hown (R := cat [[(b43, _)], [(b3, _)]] L) (cat_perm (ls' := [B, [(b43, _)], [(b3, _)]]) (ls := [[(b43, _)], [(b3, _)], B]) (by repeat (first | exact PermM.nil | refine PermM.cons (by repeat (first | exact Ins.here | apply Ins.there)) ?_))) (.row (List.Mem.head _) (SegL.seg (m := 2) (by repeat (first | exact SegL.done | apply SegL.take | apply SegL.skip))).1 rfl) (fun _ => rfl) encE_one (by first | omega | (simp only [List.length_append, List.length_cons, List.length_nil]; omega)) rfl rfl rfl rfl) ?_
          rintro ov3 _ ⟨B3, hown3, rfl⟩
          refine rg_q (.inl rfl) rfl rfl (by exact QW.qr (qw_assign rfl)) ?_
          refine rg_nil ?_
          refine qg_block ?_
          refine qg_then ?_
          refine cg_region ?_
          refine rg_q (.inl rfl) rfl rfl (by exact QW.qr (qw_move rfl)) ?_
          refine rg_q (.inl rfl) rfl rfl (by exact QW.qr (qw_add_in rfl rfl (by unfold inK; omega))) ?_
          refine rg_q (.inl rfl) rfl rfl (by exact QW.qr (qw_assign rfl)) ?_
          refine rg_nil ?_
          exact qg_round_sp _ _ _ ⟨i + 1, false, _, _, B3, by omega, by first | omega | (simp only [List.length_append, List.length_cons, List.length_nil]; omega), by simpa [List.append_assoc] using hput, hown3, rfl, rfl, rfl⟩ (by repeat (first | exact Sub.nil | refine Sub.cons rfl ?_ | refine Sub.cons (congrArg (fun z => some (Value.int IntKind.i64 z)) (by omega)) ?_)) (cat_sub (ls' := [[(b3, _)], B3]) (ls := [B3, [(b43, _)], [(b3, _)]]) (by repeat (first | exact SubM.nil | refine SubM.cons (by repeat (first | exact Ins.here | apply Ins.there)) ?_))) (by omega)
        · intro hne
          rw [if_neg hne, List.nil_append] at hput
          refine dg_nil ?_
          refine qg_then ?_
          refine cg_false rfl ?_
          refine cg_skip ?_
          refine qg_block ?_
          refine qg_then ?_
          refine cg_region ?_
          refine rg_q (.inl rfl) rfl rfl (by exact QW.qr (qw_move rfl)) ?_
          refine rg_q (.inl rfl) rfl rfl (by exact QW.qr (qw_add_in rfl rfl (by unfold inK; omega))) ?_
          refine rg_q (.inl rfl) rfl rfl (by exact QW.qr (qw_assign rfl)) ?_
          refine rg_nil ?_
          exact qg_round_sp _ _ _ ⟨i + 1, false, _, _, B, by omega, by first | omega | (simp only [List.length_append, List.length_cons, List.length_nil]; omega), by simpa [List.append_assoc] using hput, hown, rfl, rfl, rfl⟩ (by repeat (first | exact Sub.nil | refine Sub.cons rfl ?_ | refine Sub.cons (congrArg (fun z => some (Value.int IntKind.i64 z)) (by omega)) ?_)) (cat_sub (ls' := [[(b3, _)], B]) (ls := [[(b3, _)], B]) (by repeat (first | exact SubM.nil | refine SubM.cons (by repeat (first | exact Ins.here | apply Ins.there)) ?_))) (by omega)
    · skip
      rw [putGo_d] at hput
      refine cg_draw follows (.op 0 false (.op 1 false (.op 2 false (.op 3 false (.op 4 false (.op 5 false (.op 6 false (.op 7 false (.op 8 false (.op 9 false (.op 10 false (.op 11 false .done)))))))))))) _ (by kernel_rfl) (SubP.of (List.Sublist.refl _)) ?_
      refine dg_w rfl rfl (.inl rfl) rfl rfl (by exact qw_move rfl) ?_
      refine dg_w rfl rfl (.inl rfl) rfl rfl (by exact qw_not rfl) ?_
      refine dg_w rfl rfl (.inl rfl) rfl rfl (by exact qw_move rfl) ?_
      refine dg_s rfl rfl (guard_mk rfl rfl rfl rfl) rfl rfl ?_
      refine dg_s rfl rfl (guard_mk rfl rfl rfl rfl) rfl rfl ?_
      refine dg_s rfl rfl (guard_mk rfl rfl rfl rfl) rfl rfl ?_
      refine dg_s rfl rfl (guard_mk rfl rfl rfl rfl) rfl rfl ?_
      refine dg_s rfl rfl (guard_mk rfl rfl rfl rfl) rfl rfl ?_
      refine dg_s rfl rfl (guard_mk rfl rfl rfl rfl) rfl rfl ?_
      refine dg_s rfl rfl (guard_mk rfl rfl rfl rfl) rfl rfl ?_
      refine dg_s rfl rfl (guard_mk rfl rfl rfl rfl) rfl rfl ?_
      refine dg_w rfl rfl (.inl rfl) rfl rfl (by exact qw_pick_f rfl rfl) ?_
      refine dg_nil ?_
      refine qg_then ?_
      refine cg_false rfl ?_
      refine cg_skip ?_
      refine qg_then ?_
      refine cg_seq ?_
      refine cg_draw follows (.op 0 false (.op 1 false (.op 2 false (.op 3 false (.op 4 false (.op 5 false (.op 6 false (.op 7 false .done)))))))) _ (by kernel_rfl) (SubP.of (List.Sublist.refl _)) ?_
      refine dg_w rfl rfl (.inl rfl) rfl rfl (by exact qw_move rfl) ?_
      refine dg_w rfl rfl (.inl rfl) rfl rfl (by exact qw_move rfl) ?_
      refine dg_w rfl rfl (.inl rfl) rfl rfl (by exact qw_indexAddr rfl rfl (by omega) (by omega)) ?_
      refine dg_w rfl rfl (.inl rfl) rfl rfl (by exact qw_fieldAddr rfl) ?_
      refine dg_r rfl rfl rfl (.inl rfl) rfl rfl (by exact qr_load1' rfl (by repeat (first | exact List.Mem.head _ | apply List.Mem.tail | apply List.mem_append_right | assumption)) hg0) ?_
      refine dg_w rfl rfl (.inl rfl) rfl rfl (by exact qw_fieldAddr rfl) ?_
      refine dg_r rfl rfl rfl (.inl rfl) rfl rfl (by exact qr_load1 rfl (by repeat (first | exact List.Mem.head _ | apply List.Mem.tail | apply List.mem_append_right | assumption)) rfl) ?_
      refine dg_split rfl rfl (.inl rfl) rfl rfl (by exact qc_neq_str rfl rfl) ?_ ?_
      · intro hne
        rw [if_pos hne] at hput
        refine dg_nil ?_
        refine qg_then ?_
        refine cg_true rfl ?_
        refine cg_region ?_
        refine rg_q (.inl rfl) rfl rfl (by exact QW.qr (qw_move rfl)) ?_
        refine rg_q (.inl rfl) rfl rfl (by exact QW.qr (qw_move rfl)) ?_
        refine rg_q (.inl rfl) rfl rfl (by exact QW.qr (qw_move rfl)) ?_
        refine rg_q (.inl rfl) rfl rfl (by exact QW.qr (qw_indexAddr rfl rfl (by omega) (by omega))) ?_
        refine rg_q (.inl rfl) rfl rfl (by exact qr_loadS rfl (by repeat (first | exact List.Mem.head _ | apply List.Mem.tail | apply List.mem_append_right | assumption)) hel rfl) ?_
        refine rg_e (.inl rfl) rfl rfl (by exact ev_buildSlice (.cons rfl (.nil)) rfl (by first | exact CellsOf.agg | exact CellsOf.one rfl) (by rfl) (.cons rfl (by first | exact CellsOf.agg | exact CellsOf.one rfl) (by repeat (first | exact SetSeg.done | apply SetSeg.take | apply SetSeg.skip)) (by rfl) (by rfl) (.nil))) ?_
        rintro _ _ ⟨b43, rfl, rfl⟩
        refine rg_e (.inl rfl) rfl rfl (by exact ev_appendL (ys := [l[i]]) (T := 89) (T2 := 89) (.cons rfl (.cons rfl .nil)) rfl rfl hown (R := cat [[(b43, _)], [(b3, _)]] L) (cat_perm (ls' := [B, [(b43, _)], [(b3, _)]]) (ls := [[(b43, _)], [(b3, _)], B]) (by repeat (first | exact PermM.nil | refine PermM.cons (by repeat (first | exact Ins.here | apply Ins.there)) ?_))) (.row (List.Mem.head _) (SegL.seg (m := 2) (by repeat (first | exact SegL.done | apply SegL.take | apply SegL.skip))).1 rfl) (fun _ => rfl) encE_one (by first | omega | (simp only [List.length_append, List.length_cons, List.length_nil]; omega)) rfl rfl rfl rfl) ?_
        rintro ov3 _ ⟨B3, hown3, rfl⟩
        refine rg_q (.inl rfl) rfl rfl (by exact QW.qr (qw_assign rfl)) ?_
        refine rg_nil ?_
        refine qg_block ?_
        refine qg_then ?_
        refine cg_region ?_
        refine rg_q (.inl rfl) rfl rfl (by exact QW.qr (qw_move rfl)) ?_
        refine rg_q (.inl rfl) rfl rfl (by exact QW.qr (qw_add_in rfl rfl (by unfold inK; omega))) ?_
        refine rg_q (.inl rfl) rfl rfl (by exact QW.qr (qw_assign rfl)) ?_
        refine rg_nil ?_
        exact qg_round_sp _ _ _ ⟨i + 1, true, _, _, B3, by omega, by first | omega | (simp only [List.length_append, List.length_cons, List.length_nil]; omega), by simpa [List.append_assoc] using hput, hown3, rfl, rfl, rfl⟩ (by repeat (first | exact Sub.nil | refine Sub.cons rfl ?_ | refine Sub.cons (congrArg (fun z => some (Value.int IntKind.i64 z)) (by omega)) ?_)) (cat_sub (ls' := [[(b3, _)], B3]) (ls := [B3, [(b43, _)], [(b3, _)]]) (by repeat (first | exact SubM.nil | refine SubM.cons (by repeat (first | exact Ins.here | apply Ins.there)) ?_))) (by omega)
      · intro hne
        rw [if_neg hne, List.nil_append] at hput
        refine dg_nil ?_
        refine qg_then ?_
        refine cg_false rfl ?_
        refine cg_skip ?_
        refine qg_block ?_
        refine qg_then ?_
        refine cg_region ?_
        refine rg_q (.inl rfl) rfl rfl (by exact QW.qr (qw_move rfl)) ?_
        refine rg_q (.inl rfl) rfl rfl (by exact QW.qr (qw_add_in rfl rfl (by unfold inK; omega))) ?_
        refine rg_q (.inl rfl) rfl rfl (by exact QW.qr (qw_assign rfl)) ?_
        refine rg_nil ?_
        exact qg_round_sp _ _ _ ⟨i + 1, true, _, _, B, by omega, by first | omega | (simp only [List.length_append, List.length_cons, List.length_nil]; omega), by simpa [List.append_assoc] using hput, hown, rfl, rfl, rfl⟩ (by repeat (first | exact Sub.nil | refine Sub.cons rfl ?_ | refine Sub.cons (congrArg (fun z => some (Value.int IntKind.i64 z)) (by omega)) ?_)) (cat_sub (ls' := [[(b3, _)], B]) (ls := [[(b3, _)], B]) (by repeat (first | exact SubM.nil | refine SubM.cons (by repeat (first | exact Ins.here | apply Ins.there)) ?_))) (by omega)
  · intro hlt
    obtain rfl : i = l.length := by omega
    rw [List.drop_length] at hput
    refine rg_nil ?_
    refine qg_then ?_
    refine cg_false rfl ?_
    refine cg_exit ?_
    refine qg_then_exit ?_
    refine qg_then_exit ?_
    refine qg_block_here ?_
    refine qg_then ?_
    refine cg_seq ?_
    refine cg_seq ?_
    cases done
    · skip
      refine cg_region ?_
      refine rg_q (.inl rfl) rfl rfl (by exact QW.qr (qw_move rfl)) ?_
      refine rg_q (.inl rfl) rfl rfl (by exact QW.qr (qw_not rfl)) ?_
      refine rg_nil ?_
      refine qg_then ?_
      refine cg_true rfl ?_
      refine cg_region ?_
      refine rg_q (.inl rfl) rfl rfl (by exact QW.qr (qw_move rfl)) ?_
      refine rg_q (.inl rfl) rfl rfl (by exact qr_loadN rfl (by repeat (first | exact List.Mem.head _ | apply List.Mem.tail | apply List.mem_append_right | assumption)) (by repeat (first | exact SegL.done | apply SegL.take | apply SegL.skip))) ?_
      refine rg_e (.inl rfl) rfl rfl (by exact ev_buildSlice (.cons rfl (.nil)) rfl (by first | exact CellsOf.agg | exact CellsOf.one rfl) (by rfl) (.cons rfl (by first | exact CellsOf.agg | exact CellsOf.one rfl) (by repeat (first | exact SetSeg.done | apply SetSeg.take | apply SetSeg.skip)) (by rfl) (by rfl) (.nil))) ?_
      rintro _ _ ⟨b49, rfl, rfl⟩
      refine rg_e (.inl rfl) rfl rfl (by exact ev_appendL (ys := [x]) (T := 89) (T2 := 89) (.cons rfl (.cons rfl .nil)) rfl rfl hown (R := cat [[(b49, _)], [(b3, _)]] L) (cat_perm (ls' := [B, [(b49, _)], [(b3, _)]]) (ls := [[(b49, _)], [(b3, _)], B]) (by repeat (first | exact PermM.nil | refine PermM.cons (by repeat (first | exact Ins.here | apply Ins.there)) ?_))) (.row (List.Mem.head _) (SegL.seg (m := 2) (by repeat (first | exact SegL.done | apply SegL.take | apply SegL.skip))).1 rfl) (fun _ => rfl) encE_one (by first | omega | (simp only [List.length_append, List.length_cons, List.length_nil]; omega)) rfl rfl rfl rfl) ?_
      rintro ov2 _ ⟨B2, hown2, rfl⟩
      refine rg_q (.inl rfl) rfl rfl (by exact QW.qr (qw_assign rfl)) ?_
      refine rg_nil ?_
      refine qg_then ?_
      refine cg_seq ?_
      refine cg_region ?_
      refine rg_q (.inl rfl) rfl rfl (by exact QW.qr (qw_move rfl)) ?_
      refine rg_q (.inl rfl) rfl rfl (by exact QW.qr (qw_assign rfl)) ?_
      refine rg_nil ?_
      refine qg_then ?_
      refine cg_ret ?_
      exact qg_end_sp (.inl rfl) _ (.cons (.tmp rfl) (.nil)) _ (cat_sub (ls' := [B2]) (ls := [B2, [(b49, _)], [(b3, _)]]) (by repeat (first | exact SubM.nil | refine SubM.cons (by repeat (first | exact Ins.here | apply Ins.there)) ?_))) ⟨B2, by rw [← hput]; exact hown2, rfl⟩
    · skip
      refine cg_region ?_
      refine rg_q (.inl rfl) rfl rfl (by exact QW.qr (qw_move rfl)) ?_
      refine rg_q (.inl rfl) rfl rfl (by exact QW.qr (qw_not rfl)) ?_
      refine rg_nil ?_
      refine qg_then ?_
      refine cg_false rfl ?_
      refine cg_skip ?_
      refine qg_then ?_
      refine cg_seq ?_
      refine cg_region ?_
      refine rg_q (.inl rfl) rfl rfl (by exact QW.qr (qw_move rfl)) ?_
      refine rg_q (.inl rfl) rfl rfl (by exact QW.qr (qw_assign rfl)) ?_
      refine rg_nil ?_
      refine qg_then ?_
      refine cg_ret ?_
      exact qg_end_sp (.inl rfl) _ (.cons (.tmp rfl) (.nil)) _ (cat_sub (ls' := [B]) (ls := [[(b3, _)], B]) (by repeat (first | exact SubM.nil | refine SubM.cons (by repeat (first | exact Ins.here | apply Ins.there)) ?_))) ⟨B, by rw [← hput, show putGo x [] true = [] from rfl, List.append_nil]; exact hown, rfl⟩

theorem dropGo_step {n : Bytes} {l : Kept} {i : Nat} (hi : i < l.length) : dropGo n (l.take (i + 1)) = dropGo n (l.take i) ++ (if l[i].1 ≠ n then [l[i]] else []) := by
  unfold dropGo
  rw [List.take_succ_eq_append_getElem hi, List.filter_append]
  congr 1
  by_cases h : l[i].1 = n
  · rw [if_neg (fun h2 => h2 h)]; simp [h]
  · rw [if_pos h]; simp [h]
theorem dropGo_len {n : Bytes} {l : Kept} {i : Nat} : (dropGo n (l.take i)).length ≤ i := by
  unfold dropGo
  exact Nat.le_trans (List.length_filter_le _ _) (by rw [List.length_take]; omega)

theorem rdropE_ca (n : Bytes) (l : Kept) (lv : Value) (O : Out) (L : List Blk) (hl : RdL L encE 2 lv l) (hsz : l.length ≤ 300000) :
    CA Try.prog 52 [lv, encStr n] O L fun v L' => ∃ B, OwnL 100 encE 2 v (dropGo n l) B ∧ L' = B ++ L := by
  obtain ⟨p, cap, rfl, _, _, _, hR⟩ := id hl
  refine ca_enter Try.func52 rfl rfl ?_
  rw [Try.ntmps52]
  simp only [envOf]
  refine cg_seq ?_
  refine cg_region ?_
  refine rg_q (.inl rfl) rfl rfl (by exact QW.qr (qw_assign rfl)) ?_
  refine rg_nil ?_
  refine qg_then ?_
  refine cg_seq ?_
  refine cg_region ?_
  refine rg_q (.inl rfl) rfl rfl (by exact QW.qr (qw_assign rfl)) ?_
  refine rg_nil ?_
  refine qg_then ?_
  refine cg_seq ?_
  refine cg_seq ?_
  refine cg_region ?_
  refine rg_q (.inl rfl) rfl rfl (by exact QW.qr (qw_assign rfl)) ?_
  refine rg_nil ?_
  refine qg_then ?_
  refine cg_block ?_
  refine cg_loop (fun E' L' m => ∃ (i : Nat) (ov : Value) (B : List Blk), i ≤ l.length ∧ OwnL 100 encE 2 ov (dropGo n (l.take i)) B ∧ E' = [(0, .slice p l.length cap), (1, encStr n), (5, ov), (6, I i)] ∧ L' = cat [B] L ∧ m = l.length - i)
    _ _ _ ⟨0, _, [], by omega, OwnL.nil, rfl, rfl, rfl⟩ (by repeat (first | exact Sub.nil | refine Sub.cons rfl ?_ | refine Sub.cons (congrArg (fun z => some (Value.int IntKind.i64 z)) (by omega)) ?_)) (List.Perm.refl _) ?_
  rintro _ _ _ ⟨i, ov, B, hi, hown, rfl, rfl, rfl⟩
  obtain ⟨po, co, rfl, _⟩ := id (hown.rd (fun _ => rfl) (by decide))
  have hlen := dropGo_len (n := n) (l := l) (i := i)
  refine cg_seq ?_
  refine cg_seq ?_
  refine cg_region ?_
  refine rg_q (.inl rfl) rfl rfl (by exact QW.qr (qw_move rfl)) ?_
  refine rg_q (.inl rfl) rfl rfl (by exact QW.qr (qw_move rfl)) ?_
  refine rg_q (.inl rfl) rfl rfl (by exact QW.qr (qw_len_slice (t := 89) (.cons rfl (.nil)) rfl)) ?_
  refine rg_split (.inl rfl) rfl rfl (by exact qc_lss rfl rfl) ?_ ?_
  · intro hlt
    have hil : i < l.length := by omega
    obtain ⟨bN, oN, AN, tN, fN, rfl, hmN, hsN⟩ := hR (by omega)
    have hel : Seg AN (oN + (i : Int).toNat * 2) [encStr l[i].1, encStr l[i].2] := hsN.elem (enc := encE) (k := 2) (fun _ => rfl) hil
    have hg0 : AN[oN + (i : Int).toNat * 2 + 0]? = some (encStr l[i].1) := hel.get (i := 0) rfl
    have hg1 : AN[oN + (i : Int).toNat * 2 + 1]? = some (encStr l[i].2) := hel.get (i := 1) rfl
    refine rg_nil ?_
    refine qg_then ?_
    refine cg_true rfl ?_
    refine cg_skip ?_
    refine qg_then ?_
    refine cg_seq ?_
    refine cg_block ?_
    refine cg_seq ?_
    refine cg_region ?_
    refine rg_q (.inl rfl) rfl rfl (by exact QW.qr (qw_move rfl)) ?_
    refine rg_q (.inl rfl) rfl rfl (by exact QW.qr (qw_move rfl)) ?_
    refine rg_q (.inl rfl) rfl rfl (by exact QW.qr (qw_indexAddr rfl rfl (by omega) (by omega))) ?_
    refine rg_q (.inl rfl) rfl rfl (by exact QW.qr (qw_fieldAddr rfl)) ?_
    refine rg_q (.inl rfl) rfl rfl (by exact qr_load1' rfl (by repeat (first | exact List.Mem.head _ | apply List.Mem.tail | apply List.mem_append_right | assumption)) hg0) ?_
    refine rg_q (.inl rfl) rfl rfl (by exact QW.qr (qw_move rfl)) ?_
    refine rg_split (.inl rfl) rfl rfl (by exact qc_neq_str rfl rfl) ?_ ?_
    · intro hne
      refine rg_nil ?_
      refine qg_then ?_
      refine cg_true rfl ?_
      refine cg_region ?_
      refine rg_q (.inl rfl) rfl rfl (by exact QW.qr (qw_move rfl)) ?_
      refine rg_q (.inl rfl) rfl rfl (by exact QW.qr (qw_move rfl)) ?_
      refine rg_q (.inl rfl) rfl rfl (by exact QW.qr (qw_move rfl)) ?_
      refine rg_q (.inl rfl) rfl rfl (by exact QW.qr (qw_indexAddr rfl rfl (by omega) (by omega))) ?_
      refine rg_q (.inl rfl) rfl rfl (by exact qr_loadS rfl (by repeat (first | exact List.Mem.head _ | apply List.Mem.tail | apply List.mem_append_right | assumption)) hel rfl) ?_
      refine rg_e (.inl rfl) rfl rfl (by exact ev_buildSlice (.cons rfl (.nil)) rfl (by first | exact CellsOf.agg | exact CellsOf.one rfl) (by rfl) (.cons rfl (by first | exact CellsOf.agg | exact CellsOf.one rfl) (by repeat (first | exact SetSeg.done | apply SetSeg.take | apply SetSeg.skip)) (by rfl) (by rfl) (.nil))) ?_
      rintro _ _ ⟨b25, rfl, rfl⟩
      refine rg_e (.inl rfl) rfl rfl (by exact ev_appendL (ys := [l[i]]) (T := 89) (T2 := 89) (.cons rfl (.cons rfl .nil)) rfl rfl hown (R := cat [[(b25, _)]] L) (cat_perm (ls' := [B, [(b25, _)]]) (ls := [[(b25, _)], B]) (by repeat (first | exact PermM.nil | refine PermM.cons (by repeat (first | exact Ins.here | apply Ins.there)) ?_))) (.row (List.Mem.head _) (SegL.seg (m := 2) (by repeat (first | exact SegL.done | apply SegL.take | apply SegL.skip))).1 rfl) (fun _ => rfl) encE_one (by first | omega | (simp only [List.length_append, List.length_cons, List.length_nil]; omega)) rfl rfl rfl rfl) ?_
      rintro ov2 _ ⟨B2, hown2, rfl⟩
      refine rg_q (.inl rfl) rfl rfl (by exact QW.qr (qw_assign rfl)) ?_
      refine rg_nil ?_
      refine qg_block ?_
      refine qg_then ?_
      refine cg_region ?_
      refine rg_q (.inl rfl) rfl rfl (by exact QW.qr (qw_move rfl)) ?_
      refine rg_q (.inl rfl) rfl rfl (by exact QW.qr (qw_add_in rfl rfl (by unfold inK; omega))) ?_
      refine rg_q (.inl rfl) rfl rfl (by exact QW.qr (qw_assign rfl)) ?_
      refine rg_nil ?_
      exact qg_round_sp _ _ _ ⟨i + 1, _, B2, by omega, by rw [dropGo_step hil, if_pos hne]; exact hown2, rfl, rfl, rfl⟩ (by repeat (first | exact Sub.nil | refine Sub.cons rfl ?_ | refine Sub.cons (congrArg (fun z => some (Value.int IntKind.i64 z)) (by omega)) ?_)) (cat_sub (ls' := [B2]) (ls := [B2, [(b25, _)]]) (by repeat (first | exact SubM.nil | refine SubM.cons (by repeat (first | exact Ins.here | apply Ins.there)) ?_))) (by omega)
    · intro hne
      refine rg_nil ?_
      refine qg_then ?_
      refine cg_false rfl ?_
      refine cg_skip ?_
      refine qg_block ?_
      refine qg_then ?_
      refine cg_region ?_
      refine rg_q (.inl rfl) rfl rfl (by exact QW.qr (qw_move rfl)) ?_
      refine rg_q (.inl rfl) rfl rfl (by exact QW.qr (qw_add_in rfl rfl (by unfold inK; omega))) ?_
      refine rg_q (.inl rfl) rfl rfl (by exact QW.qr (qw_assign rfl)) ?_
      refine rg_nil ?_
      exact qg_round_sp _ _ _ ⟨i + 1, _, B, by omega, by rw [dropGo_step hil, if_neg hne, List.append_nil]; exact hown, rfl, rfl, rfl⟩ (by repeat (first | exact Sub.nil | refine Sub.cons rfl ?_ | refine Sub.cons (congrArg (fun z => some (Value.int IntKind.i64 z)) (by omega)) ?_)) (SubP.of (List.Sublist.refl _)) (by omega)
  · intro hlt
    obtain rfl : i = l.length := by omega
    rw [List.take_length] at hown ⊢
    refine rg_nil ?_
    refine qg_then ?_
    refine cg_false rfl ?_
    refine cg_exit ?_
    refine qg_then_exit ?_
    refine qg_then_exit ?_
    refine qg_block_here ?_
    refine qg_then ?_
    refine cg_seq ?_
    refine cg_region ?_
    refine rg_q (.inl rfl) rfl rfl (by exact QW.qr (qw_move rfl)) ?_
    refine rg_q (.inl rfl) rfl rfl (by exact QW.qr (qw_assign rfl)) ?_
    refine rg_nil ?_
    refine qg_then ?_
    refine cg_ret ?_
    exact qg_end (.inl rfl) _ (.cons (.tmp rfl) (.nil)) _ (List.Sublist.refl _) ⟨B, hown, rfl⟩

theorem rfind_ca (n : Bytes) (l : Kept) (lv : Value) (O : Out) (L : List Blk) (hl : RdL L encE 2 lv l) (hsz : l.length ≤ 300000) :
    CA Try.prog 51 [lv, encStr n] O L fun v L' => (∃ s, v = .tuple #[encStr s, .bool (l.any fun t => decide (t.1 = n))]) ∧ L' = L := by
  obtain ⟨p, cap, rfl, _, _, _, hR⟩ := id hl
  refine ca_enter Try.func51 rfl rfl ?_
  rw [Try.ntmps51]
  simp only [envOf]
  refine cg_seq ?_
  refine cg_region ?_
  refine rg_q (.inl rfl) rfl rfl (by exact QW.qr (qw_assign rfl)) ?_
  refine rg_q (.inl rfl) rfl rfl (by exact QW.qr (qw_assign rfl)) ?_
  refine rg_nil ?_
  refine qg_then ?_
  refine cg_seq ?_
  refine cg_seq ?_
  refine cg_region ?_
  refine rg_q (.inl rfl) rfl rfl (by exact QW.qr (qw_assign rfl)) ?_
  refine rg_nil ?_
  refine qg_then ?_
  refine cg_block ?_
  refine cg_loop (fun E' L' m => ∃ (i : Nat), i ≤ l.length ∧ (∀ t ∈ l.take i, t.1 ≠ n) ∧ E' = [(0, .slice p l.length cap), (1, encStr n), (6, I i)] ∧ L' = L ∧ m = l.length - i)
    _ _ _ ⟨0, by omega, fun t ht => by simp at ht, rfl, rfl, rfl⟩ (by repeat (first | exact Sub.nil | refine Sub.cons rfl ?_ | refine Sub.cons (congrArg (fun z => some (Value.int IntKind.i64 z)) (by omega)) ?_)) (List.Perm.refl _) ?_
  rintro _ _ _ ⟨i, hi, hno, rfl, rfl, rfl⟩
  refine cg_seq ?_
  refine cg_seq ?_
  refine cg_region ?_
  refine rg_q (.inl rfl) rfl rfl (by exact QW.qr (qw_move rfl)) ?_
  refine rg_q (.inl rfl) rfl rfl (by exact QW.qr (qw_move rfl)) ?_
  refine rg_q (.inl rfl) rfl rfl (by exact QW.qr (qw_len_slice (t := 89) (.cons rfl (.nil)) rfl)) ?_
  refine rg_split (.inl rfl) rfl rfl (by exact qc_lss rfl rfl) ?_ ?_
  · intro hlt
    have hil : i < l.length := by omega
    obtain ⟨bN, oN, AN, tN, fN, rfl, hmN, hsN⟩ := hR (by omega)
    have hel : Seg AN (oN + (i : Int).toNat * 2) [encStr l[i].1, encStr l[i].2] := hsN.elem (enc := encE) (k := 2) (fun _ => rfl) hil
    have hg0 : AN[oN + (i : Int).toNat * 2 + 0]? = some (encStr l[i].1) := hel.get (i := 0) rfl
    have hg1 : AN[oN + (i : Int).toNat * 2 + 1]? = some (encStr l[i].2) := hel.get (i := 1) rfl
    refine rg_nil ?_
    refine qg_then ?_
    refine cg_true rfl ?_
    refine cg_skip ?_
    refine qg_then ?_
    refine cg_seq ?_
    refine cg_block ?_
    refine cg_seq ?_
    refine cg_region ?_
    refine rg_q (.inl rfl) rfl rfl (by exact QW.qr (qw_move rfl)) ?_
    refine rg_q (.inl rfl) rfl rfl (by exact QW.qr (qw_move rfl)) ?_
    refine rg_q (.inl rfl) rfl rfl (by exact QW.qr (qw_indexAddr rfl rfl (by omega) (by omega))) ?_
    refine rg_q (.inl rfl) rfl rfl (by exact QW.qr (qw_fieldAddr rfl)) ?_
    refine rg_q (.inl rfl) rfl rfl (by exact qr_load1' rfl (by repeat (first | exact List.Mem.head _ | apply List.Mem.tail | apply List.mem_append_right | assumption)) hg0) ?_
    refine rg_q (.inl rfl) rfl rfl (by exact QW.qr (qw_move rfl)) ?_
    refine rg_split (.inl rfl) rfl rfl (by exact qc_eql_str rfl rfl) ?_ ?_
    · intro hne
      have hfin : (l.any fun t => decide (t.1 = n)) = true := List.any_eq_true.2 ⟨l[i], List.getElem_mem hil, by simpa using hne⟩
      refine rg_nil ?_
      refine qg_then ?_
      refine cg_true rfl ?_
      refine cg_seq ?_
      refine cg_region ?_
      refine rg_q (.inl rfl) rfl rfl (by exact QW.qr (qw_move rfl)) ?_
      refine rg_q (.inl rfl) rfl rfl (by exact QW.qr (qw_move rfl)) ?_
      refine rg_q (.inl rfl) rfl rfl (by exact QW.qr (qw_indexAddr rfl rfl (by omega) (by omega))) ?_
      refine rg_q (.inl rfl) rfl rfl (by exact QW.qr (qw_fieldAddr rfl)) ?_
      refine rg_q (.inl rfl) rfl rfl (by exact qr_load1' rfl (by repeat (first | exact List.Mem.head _ | apply List.Mem.tail | apply List.mem_append_right | assumption)) hg1) ?_
      refine rg_q (.inl rfl) rfl rfl (by exact QW.qr (qw_assign rfl)) ?_
      refine rg_q (.inl rfl) rfl rfl (by exact QW.qr (qw_assign rfl)) ?_
      refine rg_nil ?_
      refine qg_then ?_
      refine cg_ret ?_
      refine qg_block_ret ?_
      refine qg_then_ret ?_
      refine qg_then_ret ?_
      refine qg_block_ret ?_
      refine qg_then_ret ?_
      exact qg_end (.inl rfl) _ (.cons (.tmp rfl) (.cons (.tmp rfl) (.nil))) _ (List.Sublist.refl _) ⟨⟨l[i].2, by rw [hfin] <;> rfl⟩, rfl⟩
    · intro hne
      refine rg_nil ?_
      refine qg_then ?_
      refine cg_false rfl ?_
      refine cg_skip ?_
      refine qg_block ?_
      refine qg_then ?_
      refine cg_region ?_
      refine rg_q (.inl rfl) rfl rfl (by exact QW.qr (qw_move rfl)) ?_
      refine rg_q (.inl rfl) rfl rfl (by exact QW.qr (qw_add_in rfl rfl (by unfold inK; omega))) ?_
      refine rg_q (.inl rfl) rfl rfl (by exact QW.qr (qw_assign rfl)) ?_
      refine rg_nil ?_
      exact qg_round_sp _ _ _ ⟨i + 1, by omega, fun t ht => by
          rw [List.take_succ_eq_append_getElem hil, List.mem_append, List.mem_singleton] at ht
          rcases ht with ht | rfl
          · exact hno t ht
          · exact hne, rfl, rfl, rfl⟩ (by repeat (first | exact Sub.nil | refine Sub.cons rfl ?_ | refine Sub.cons (congrArg (fun z => some (Value.int IntKind.i64 z)) (by omega)) ?_)) (SubP.of (List.Sublist.refl _)) (by omega)
  · intro hlt
    obtain rfl : i = l.length := by omega
    rw [List.take_length] at hno
    have hfin : (l.any fun t => decide (t.1 = n)) = false := List.any_eq_false.2 fun t ht => by simpa using hno t ht
    refine rg_nil ?_
    refine qg_then ?_
    refine cg_false rfl ?_
    refine cg_exit ?_
    refine qg_then_exit ?_
    refine qg_then_exit ?_
    refine qg_block_here ?_
    refine qg_then ?_
    refine cg_seq ?_
    refine cg_region ?_
    refine rg_q (.inl rfl) rfl rfl (by exact QW.qr (qw_assign rfl)) ?_
    refine rg_q (.inl rfl) rfl rfl (by exact QW.qr (qw_assign rfl)) ?_
    refine rg_nil ?_
    refine qg_then ?_
    refine cg_ret ?_
    exact qg_end (.inl rfl) _ (.cons (.tmp rfl) (.cons (.tmp rfl) (.nil))) _ (List.Sublist.refl _) ⟨⟨[], by rw [hfin] <;> rfl⟩, rfl⟩

end Go.Proofs.Ytcbbogaanebefaa