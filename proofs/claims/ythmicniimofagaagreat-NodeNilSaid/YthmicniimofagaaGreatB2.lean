/-
  THE WALKS of octet's numbers and of logbook's record. Conditions: sizes.
-/
import Derived.Test.YthmicniimofagaaGreatB1
namespace Go.Proofs.YthmicniimofagaaGreat
open Fw
open Go.Proofs (encStr)
set_option linter.unusedVariables false
set_option maxRecDepth 100000

def enc32 (x : Int) : List Value := [U32 x]
theorem own0B (b : Nat) : OwnL 5 encB 1 (.slice (some ⟨b, 0, none⟩) 0 0) [] [(b, .cells ([] : List Value).toArray 5 (0, 0))] := OwnS.empty
theorem rep8 : rep 0 [Value.int .u8 0] = [] := rfl
theorem rd32 (b : Nat) (L : List Blk) (x : Int) (h : (b, Obj.cells [U32 x].toArray 23 (0, 0)) ∈ L) : RdL L enc32 1 (.slice (some ⟨b, 0, none⟩) 1 1) [x] :=
  ⟨_, _, rfl, rfl, Nat.le_refl 1, ⟨fun q h => (by cases h; rfl), fun h => (by cases h)⟩, fun _ => ⟨b, 0, _, _, _, rfl, h, fun j hj => by simp [enc32]⟩⟩
theorem numF_step {n : Int} {size m : Nat} {X : Bytes} (h : X ++ numF n (m + 1) = numF n size) : (X ++ [byteAt n m]) ++ numF n m = numF n size := by
  rw [← h, numF, List.append_assoc]; rfl
theorem four_step {xs : List Int} {k : Nat} (hk : k < xs.length) : (xs.take (k + 1)).flatMap (numF · 4) = (xs.take k).flatMap (numF · 4) ++ numF xs[k] 4 := by
  rw [List.take_succ_eq_append_getElem hk, List.flatMap_append]
  simp
theorem four_len (xs : List Int) : (xs.flatMap (numF · 4)).length = xs.length * 4 := by
  induction xs with
  | nil => rfl
  | cons x xs ih => rw [List.flatMap_cons, List.length_append, ih, numF_len, List.length_cons]; omega

theorem num_ca (bs : Bytes) (ov : Value) (B : List Blk) (n : Int) (size : Nat) (hn : isU64 n) (hsize : size ≤ 8) (hbs : bs.length ≤ 900000) (ho : OwnL 5 encB 1 ov bs B) (O : Out) (L : List Blk) :
    CA Tryz.prog 69 [ov, U n, I size] O (B ++ L) fun v L' => ∃ B2, OwnL 5 encB 1 v (bs ++ numF n size) B2 ∧ L' = B2 ++ L := by
  have hn0 := hn.1
  refine ca_enter Tryz.func69 rfl rfl ?_
  rw [Tryz.ntmps69]
  simp only [envOf]
  refine cg_seq ?_
  refine cg_region ?_
  refine rg_q (.inl rfl) rfl rfl (by exact QW.qr (qw_assign rfl)) ?_
  refine rg_nil ?_
  refine qg_then ?_
  refine cg_seq ?_
  refine cg_seq ?_
  refine cg_region ?_
  refine rg_q (.inl rfl) rfl rfl (by exact QW.qr (qw_move rfl)) ?_
  refine rg_q (.inl rfl) rfl rfl (by exact QW.qr (qw_sub_in rfl rfl (by unfold inK; omega))) ?_
  refine rg_q (.inl rfl) rfl rfl (by exact QW.qr (qw_assign rfl)) ?_
  refine rg_nil ?_
  refine qg_then ?_
  refine cg_block ?_
  refine cg_loop (fun E' L' m => ∃ (k : Nat) (X : Bytes) (ov : Value) (B : List Blk), k ≤ size ∧ X.length ≤ size ∧ X ++ numF n k = numF n size ∧ OwnL 5 encB 1 ov (bs ++ X) B ∧ E' = [(0, ov), (1, U n), (7, I ((k : Int) - 1))] ∧ L' = B ++ L ∧ m = k)
    _ _ _ ⟨size, [], ov, B, Nat.le_refl _, by simp, rfl, by rw [List.append_nil]; exact ho, rfl, rfl, rfl⟩ (by repeat (first | exact Sub.nil | refine Sub.cons rfl ?_ | refine Sub.cons (congrArg (fun z => some (Value.int IntKind.i64 z)) (by omega)) ?_)) (List.Perm.refl _) ?_
  clear ho ov B
  rintro _ _ _ ⟨k, X, ov, B, hk, hxl, hX, ho, rfl, rfl, hmk⟩
  have hxl2 : X.length + k = size := by
    have := congrArg List.length hX
    rw [List.length_append, numF_len, numF_len] at this
    exact this
  refine cg_seq ?_
  refine cg_seq ?_
  refine cg_region ?_
  refine rg_q (.inl rfl) rfl rfl (by exact QW.qr (qw_move rfl)) ?_
  refine rg_split (.inl rfl) rfl rfl (by exact qc_geq rfl rfl) ?_ ?_
  · intro hge
    obtain ⟨m, rfl⟩ : ∃ m, k = m + 1 := ⟨k - 1, by omega⟩
    rw [show (((m + 1 : Nat) : Int) - 1) = (m : Int) from by omega]
    refine rg_nil ?_
    refine qg_then ?_
    refine cg_true rfl ?_
    refine cg_skip ?_
    refine qg_then ?_
    refine cg_seq ?_
    refine cg_block ?_
    refine cg_region ?_
    refine rg_q (.inl rfl) rfl rfl (by exact QW.qr (qw_move rfl)) ?_
    refine rg_q (.inl rfl) rfl rfl (by exact QW.qr (qw_move rfl)) ?_
    refine rg_q (.inl rfl) rfl rfl (by exact QW.qr (qw_move rfl)) ?_
    refine rg_q (.inl rfl) rfl rfl (by exact QW.qr (qw_mul_in rfl rfl (by unfold inK; omega))) ?_
    refine rg_q (.inl rfl) rfl rfl (by exact QW.qr (qw_shr rfl rfl (by omega))) ?_
    refine rg_q (.inl rfl) rfl rfl (by exact QW.qr (qw_val (qw_conv rfl) (congrArg (Value.int .u8) (byte_shr hn0 (by omega))))) ?_
    refine rg_e (.inl rfl) rfl rfl (by exact ev_buildSlice (.cons rfl (.nil)) rfl (by first | exact CellsOf.agg | exact CellsOf.one rfl) (by rfl) (.cons rfl (by first | exact CellsOf.agg | exact CellsOf.one rfl) (by repeat (first | exact SetSeg.done | apply SetSeg.take | apply SetSeg.skip)) (by rfl) (by rfl) (.nil))) ?_
    rintro _ _ ⟨b20, rfl, rfl⟩
    refine rg_e (.inl rfl) rfl rfl (by exact ev_appendL (ys := [byteAt n m]) (T := 98) (T2 := 98) (.cons rfl (.cons rfl .nil)) rfl rfl ho (pull [_] B _) (.row (List.Mem.head _) (SegL.seg (m := 1) (by repeat (first | exact SegL.done | apply SegL.take | apply SegL.skip))).1 rfl) (fun _ => rfl) encB_one (by rw [List.length_append]; simp only [List.length_singleton]; omega) rfl rfl rfl rfl) ?_
    rintro ov2 _ ⟨B2, ho2, rfl⟩
    refine rg_q (.inl rfl) rfl rfl (by exact QW.qr (qw_assign rfl)) ?_
    refine rg_nil ?_
    refine qg_block ?_
    refine qg_then ?_
    refine cg_region ?_
    refine rg_q (.inl rfl) rfl rfl (by exact QW.qr (qw_move rfl)) ?_
    refine rg_q (.inl rfl) rfl rfl (by exact QW.qr (qw_sub_in rfl rfl (by unfold inK; omega))) ?_
    refine rg_q (.inl rfl) rfl rfl (by exact QW.qr (qw_assign rfl)) ?_
    refine rg_nil ?_
    exact qg_round_sub _ _ _ ⟨m, X ++ [byteAt n m], _, B2, by omega, by rw [List.length_append]; simp only [List.length_singleton]; omega, numF_step hX, by rw [← List.append_assoc]; exact ho2, rfl, rfl, rfl⟩ (by repeat (first | exact Sub.nil | refine Sub.cons rfl ?_ | refine Sub.cons (congrArg (fun z => some (Value.int IntKind.i64 z)) (by omega)) ?_)) (List.Sublist.append_left (List.sublist_append_right [_] _) _) (by omega)
  · intro hge
    obtain rfl : k = 0 := by omega
    rw [numF, List.append_nil] at hX
    subst hX
    refine rg_nil ?_
    refine qg_then ?_
    refine cg_false rfl ?_
    refine cg_exit ?_
    refine qg_then_exit ?_
    refine qg_then_exit ?_
    refine qg_block_here ?_
    refine qg_then ?_
    refine cg_seq ?_
    refine cg_region ?_
    refine rg_q (.inl rfl) rfl rfl (by exact QW.qr (qw_move rfl)) ?_
    refine rg_q (.inl rfl) rfl rfl (by exact QW.qr (qw_assign rfl)) ?_
    refine rg_nil ?_
    refine qg_then ?_
    refine cg_ret ?_
    exact qg_end (.inl rfl) _ (.cons (.tmp rfl) (.nil)) _ (List.Sublist.refl _) ⟨B, ho, rfl⟩

theorem four_ca (bs : Bytes) (ov lv : Value) (B : List Blk) (xs : List Int) (hx : ∀ x ∈ xs, isU32 x) (hxl : xs.length ≤ 10) (hbs : bs.length ≤ 800000) (ho : OwnL 5 encB 1 ov bs B) (O : Out) (L : List Blk) (hl : RdL L enc32 1 lv xs) :
    CA Tryz.prog 28 [ov, lv] O (B ++ L) fun v L' => ∃ B2, OwnL 5 encB 1 v (bs ++ xs.flatMap (numF · 4)) B2 ∧ L' = B2 ++ L := by
  obtain ⟨p, cap, rfl, _, _, _, hR⟩ := hl
  refine ca_enter Tryz.func28 rfl rfl ?_
  rw [Tryz.ntmps28]
  simp only [envOf]
  refine cg_seq ?_
  refine cg_region ?_
  refine rg_q (.inl rfl) rfl rfl (by exact QW.qr (qw_assign rfl)) ?_
  refine rg_nil ?_
  refine qg_then ?_
  refine cg_seq ?_
  refine cg_seq ?_
  refine cg_region ?_
  refine rg_q (.inl rfl) rfl rfl (by exact QW.qr (qw_move rfl)) ?_
  refine rg_q (.inl rfl) rfl rfl (by exact QW.qr (qw_len_slice (t := 76) (.cons rfl (.nil)) rfl)) ?_
  refine rg_q (.inl rfl) rfl rfl (by exact QW.qr (qw_move rfl)) ?_
  refine rg_nil ?_
  refine qg_then ?_
  refine cg_block ?_
  refine cg_loop (fun E' L' m => ∃ (k : Nat) (ov : Value) (B : List Blk), k ≤ xs.length ∧ OwnL 5 encB 1 ov (bs ++ (xs.take k).flatMap (numF · 4)) B ∧ E' = [(0, ov), (7, .slice p xs.length cap), (8, .int .i64 xs.length), (9, .int .i64 k)] ∧ L' = B ++ L ∧ m = xs.length - k)
    _ _ _ ⟨0, ov, B, by omega, by simpa using ho, rfl, rfl, rfl⟩ (by repeat (first | exact Sub.nil | refine Sub.cons rfl ?_ | refine Sub.cons (congrArg (fun z => some (Value.int IntKind.i64 z)) (by omega)) ?_)) (List.Perm.refl _) ?_
  clear ho ov B
  rintro _ _ _ ⟨k, ov, B, hk, ho, rfl, rfl, rfl⟩
  refine cg_seq ?_
  refine cg_region ?_
  refine rg_split (.inl rfl) rfl rfl (by exact qc_lss rfl rfl) ?_ ?_
  · intro hlt
    have hklt : k < xs.length := by omega
    obtain ⟨b0, o0, A0, t0, fz0, rfl, hm0, hseg⟩ := hR (by omega)
    have hg : A0[o0 + (k : Int).toNat * 1]? = some (U32 xs[k]) := (hseg.elem (enc := enc32) (k := 1) (fun _ => rfl) hklt).get (i := 0) rfl
    have hxk := hx _ (List.getElem_mem hklt)
    unfold isU32 at hxk
    have htl : ((xs.take k).flatMap (numF · 4)).length ≤ 40 := by rw [four_len, List.length_take]; omega
    refine rg_nil ?_
    refine qg_then ?_
    refine cg_seq ?_
    refine cg_true rfl ?_
    refine cg_skip ?_
    refine qg_then ?_
    refine cg_seq ?_
    refine cg_block ?_
    refine cg_seq ?_
    refine cg_region ?_
    refine rg_q (.inl rfl) rfl rfl (by exact QW.qr (qw_indexAddr rfl rfl (by omega) (by omega))) ?_
    refine rg_q (.inl rfl) rfl rfl (by exact qr_load1' rfl (List.mem_append_right _ hm0) hg) ?_
    refine rg_q (.inl rfl) rfl rfl (by exact QW.qr (qw_assign rfl)) ?_
    refine rg_nil ?_
    refine qg_then ?_
    refine cg_region ?_
    refine rg_q (.inl rfl) rfl rfl (by exact QW.qr (qw_move rfl)) ?_
    refine rg_q (.inl rfl) rfl rfl (by exact QW.qr (qw_move rfl)) ?_
    refine rg_q (.inl rfl) rfl rfl (by exact QW.qr (qw_conv_in rfl (by unfold inK; omega))) ?_
    refine rg_e (.inl rfl) rfl rfl (by exact ev_call0 rfl (.cons rfl (.cons rfl (.cons rfl (.nil)))) (num_ca _ _ B xs[k] 4 ⟨by omega, by omega⟩ (by decide) (by rw [List.length_append]; omega) ho O L)) ?_
    rintro ov2 _ ⟨B2, ho2, rfl⟩
    refine rg_q (.inl rfl) rfl rfl (by exact QW.qr (qw_assign rfl)) ?_
    refine rg_nil ?_
    refine qg_block ?_
    refine qg_then ?_
    refine cg_region ?_
    refine rg_q (.inl rfl) rfl rfl (by exact QW.qr (qw_add_in rfl rfl (by unfold inK; omega))) ?_
    refine rg_q (.inl rfl) rfl rfl (by exact QW.qr (qw_move rfl)) ?_
    refine rg_nil ?_
    exact qg_round _ _ _ ⟨k + 1, _, B2, by omega, by rw [four_step hklt, ← List.append_assoc]; exact ho2, rfl, rfl, rfl⟩ (by repeat (first | exact Sub.nil | refine Sub.cons rfl ?_ | refine Sub.cons (congrArg (fun z => some (Value.int IntKind.i64 z)) (by omega)) ?_)) (List.Perm.refl _) (by omega)
  · intro hlt
    obtain rfl : k = xs.length := by omega
    rw [List.take_length] at ho
    refine rg_nil ?_
    refine qg_then ?_
    refine cg_seq ?_
    refine cg_false rfl ?_
    refine cg_exit ?_
    refine qg_then_exit ?_
    refine qg_then_exit ?_
    refine qg_block_here ?_
    refine qg_then ?_
    refine cg_seq ?_
    refine cg_region ?_
    refine rg_q (.inl rfl) rfl rfl (by exact QW.qr (qw_move rfl)) ?_
    refine rg_q (.inl rfl) rfl rfl (by exact QW.qr (qw_assign rfl)) ?_
    refine rg_nil ?_
    refine qg_then ?_
    refine cg_ret ?_
    exact qg_end (.inl rfl) _ (.cons (.tmp rfl) (.nil)) _ (List.Sublist.refl _) ⟨B, ho, rfl⟩

/-- A record's bytes. -/
def recF (kind : UInt8) (name val : Bytes) : Bytes := numF (2 + name.length + val.length) 4 ++ [kind, UInt8.ofNat name.length] ++ name ++ val ++ [165]
theorem recF_len (kind : UInt8) (name val : Bytes) : (recF kind name val).length = name.length + val.length + 7 := by
  unfold recF
  simp only [List.length_append, numF_len, List.length_cons, List.length_nil]
  omega

theorem record_ca (kind : UInt8) (name val : Bytes) (vv : Value) (hnl : name.length ≤ 100000) (hvl : val.length ≤ 600000) (O : Out) (L : List Blk) (hv : RdL L encB 1 vv val) :
    CA Tryz.prog 169 [.int .u8 kind.toNat, encStr name, vv] O L fun v L' => ∃ B, OwnL 5 encB 1 v (recF kind name val) B ∧ L' = B ++ L := by
  obtain ⟨p, cap, rfl, hqv⟩ := id hv
  refine ca_enter Tryz.func169 rfl rfl ?_
  rw [Tryz.ntmps169]
  simp only [envOf]
  refine cg_seq ?_
  refine cg_region ?_
  refine rg_q (.inl rfl) rfl rfl (by exact QW.qr (qw_assign rfl)) ?_
  refine rg_nil ?_
  refine qg_then ?_
  refine cg_seq ?_
  refine cg_region ?_
  refine rg_q (.inl rfl) rfl rfl (by exact QW.qr (qw_move rfl)) ?_
  refine rg_q (.inl rfl) rfl rfl (by exact QW.qr (qw_len_enc (t := 9) (.cons rfl .nil) rfl)) ?_
  refine rg_q (.inl rfl) rfl rfl (by exact QW.qr (qw_add_in rfl rfl (by unfold inK; omega))) ?_
  refine rg_q (.inl rfl) rfl rfl (by exact QW.qr (qw_move rfl)) ?_
  refine rg_q (.inl rfl) rfl rfl (by exact QW.qr (qw_len_slice (t := 39) (.cons rfl (.nil)) rfl)) ?_
  refine rg_q (.inl rfl) rfl rfl (by exact QW.qr (qw_add_in rfl rfl (by unfold inK; omega))) ?_
  refine rg_q (.inl rfl) rfl rfl (by exact QW.qr (qw_assign rfl)) ?_
  refine rg_nil ?_
  refine qg_then ?_
  refine cg_seq ?_
  refine cg_region ?_
  refine rg_e (.inl rfl) rfl rfl (by exact ev_buildSlice (.nil) rfl (by first | exact CellsOf.agg | exact CellsOf.one rfl) (by rfl) (.nil)) ?_
  rintro _ _ ⟨b15, rfl, rfl⟩
  rw [rep8]
  refine rg_q (.inl rfl) rfl rfl (by exact QW.qr (qw_move rfl)) ?_
  refine rg_q (.inl rfl) rfl rfl (by exact QW.qr (qw_conv_in rfl (by unfold inK; omega))) ?_
  refine rg_e (.inl rfl) rfl rfl (by exact ev_buildSlice (.cons rfl (.nil)) rfl (by first | exact CellsOf.agg | exact CellsOf.one rfl) (by rfl) (.cons rfl (by first | exact CellsOf.agg | exact CellsOf.one rfl) (by repeat (first | exact SetSeg.done | apply SetSeg.take | apply SetSeg.skip)) (by rfl) (by rfl) (.nil))) ?_
  rintro _ _ ⟨b18, rfl, rfl⟩
  rw [show ([] : List Value).append (rep 0 [Value.int .u32 0]) = [] from rfl]
  refine rg_e (.inl rfl) rfl rfl (by exact ev_call0 rfl (.cons rfl (.cons rfl (.nil))) ((four_ca [] _ _ [(b15, _)] [2 + (name.length : Int) + val.length] (fun x hx => by have : x = 2 + (name.length : Int) + val.length := (by simpa using hx); subst this; exact ⟨by omega, by omega⟩) (by simp) (by simp) (own0B b15) O ((b18, _) :: L) (rd32 b18 _ _ (List.Mem.head _))).pre (fun w h => h.perm (cat_perm (ls' := [[(b15, _)], [(b18, _)]]) (ls := [[(b18, _)], [(b15, _)]]) (by repeat (first | exact PermM.nil | refine PermM.cons (by repeat (first | exact Ins.here | apply Ins.there)) ?_)))))) ?_
  rintro ov1 _ ⟨B1, ho1, rfl⟩
  rw [show ([] : Bytes) ++ [2 + (name.length : Int) + val.length].flatMap (numF · 4) = numF (2 + name.length + val.length) 4 from by simp] at ho1
  have hl4 := numF_len (2 + name.length + val.length) 4
  refine rg_q (.inl rfl) rfl rfl (by exact QW.qr (qw_assign rfl)) ?_
  refine rg_nil ?_
  refine qg_then ?_
  refine cg_seq ?_
  refine cg_region ?_
  refine rg_q (.inl rfl) rfl rfl (by exact QW.qr (qw_move rfl)) ?_
  refine rg_q (.inl rfl) rfl rfl (by exact QW.qr (qw_move rfl)) ?_
  refine rg_q (.inl rfl) rfl rfl (by exact QW.qr (qw_move rfl)) ?_
  refine rg_q (.inl rfl) rfl rfl (by exact QW.qr (qw_len_enc (t := 9) (.cons rfl .nil) rfl)) ?_
  refine rg_q (.inl rfl) rfl rfl (by exact QW.qr (qw_val (qw_conv rfl) (congrArg (Value.int .u8) (wrap_u8_nat name.length)))) ?_
  refine rg_e (.inl rfl) rfl rfl (by exact ev_buildSlice (.cons rfl (.cons rfl (.nil))) rfl (by first | exact CellsOf.agg | exact CellsOf.one rfl) (by rfl) (.cons rfl (by first | exact CellsOf.agg | exact CellsOf.one rfl) (by repeat (first | exact SetSeg.done | apply SetSeg.take | apply SetSeg.skip)) (by rfl) (by rfl) (.cons rfl (by first | exact CellsOf.agg | exact CellsOf.one rfl) (by repeat (first | exact SetSeg.done | apply SetSeg.take | apply SetSeg.skip)) (by rfl) (by rfl) (.nil)))) ?_
  rintro _ _ ⟨b25, rfl, rfl⟩
  refine rg_e (.inl rfl) rfl rfl (by exact ev_appendL (ys := [kind, UInt8.ofNat name.length]) (T := 98) (T2 := 98) (.cons rfl (.cons rfl .nil)) rfl rfl ho1 (R := cat [[(b25, _)], [(b18, _)]] L) (cat_perm (ls' := [B1, [(b25, _)], [(b18, _)]]) (ls := [[(b25, _)], B1, [(b18, _)]]) (by repeat (first | exact PermM.nil | refine PermM.cons (by repeat (first | exact Ins.here | apply Ins.there)) ?_))) (.row (List.Mem.head _) (SegL.seg (m := 2) (by repeat (first | exact SegL.done | apply SegL.take | apply SegL.skip))).1 rfl) (fun _ => rfl) encB_one (by simp only [List.length_cons, List.length_nil]; omega) rfl rfl rfl rfl) ?_
  rintro ov2 _ ⟨B2, ho2, rfl⟩
  refine rg_q (.inl rfl) rfl rfl (by exact QW.qr (qw_move rfl)) ?_
  refine rg_e (.inl rfl) rfl rfl (by exact ev_appendL (ys := name) (T := 98) (T2 := 9) (.cons rfl (.cons rfl .nil)) rfl rfl ho2 (R := cat [[(b25, _)], [(b18, _)]] L) (List.Perm.refl _) enc_src (fun _ => rfl) encB_one (by rw [List.length_append]; simp only [List.length_cons, List.length_nil]; omega) rfl rfl rfl rfl) ?_
  rintro ov3 _ ⟨B3, ho3, rfl⟩
  refine rg_q (.inl rfl) rfl rfl (by exact QW.qr (qw_move rfl)) ?_
  refine rg_e (.inl rfl) rfl rfl (by exact ev_appendL (ys := val) (T := 98) (T2 := 39) (.cons rfl (.cons rfl .nil)) rfl rfl ho3 (R := cat [[(b25, _)], [(b18, _)]] L) (List.Perm.refl _) (hv.mono (fun q hq => mem_catF hq)).src (fun _ => rfl) encB_one (by rw [List.length_append, List.length_append]; simp only [List.length_cons, List.length_nil]; omega) rfl rfl rfl rfl) ?_
  rintro ov4 _ ⟨B4, ho4, rfl⟩
  refine rg_q (.inl rfl) rfl rfl (by exact QW.qr (qw_assign rfl)) ?_
  refine rg_nil ?_
  refine qg_then ?_
  refine cg_seq ?_
  refine cg_region ?_
  refine rg_q (.inl rfl) rfl rfl (by exact QW.qr (qw_move rfl)) ?_
  refine rg_e (.inl rfl) rfl rfl (by exact ev_buildSlice (.cons rfl (.nil)) rfl (by first | exact CellsOf.agg | exact CellsOf.one rfl) (by rfl) (.cons rfl (by first | exact CellsOf.agg | exact CellsOf.one rfl) (by repeat (first | exact SetSeg.done | apply SetSeg.take | apply SetSeg.skip)) (by rfl) (by rfl) (.nil))) ?_
  rintro _ _ ⟨b32, rfl, rfl⟩
  refine rg_e (.inl rfl) rfl rfl (by exact ev_appendL (ys := [165]) (T := 98) (T2 := 98) (.cons rfl (.cons rfl .nil)) rfl rfl ho4 (R := cat [[(b32, _)], [(b25, _)], [(b18, _)]] L) (cat_perm (ls' := [B4, [(b32, _)], [(b25, _)], [(b18, _)]]) (ls := [[(b32, _)], B4, [(b25, _)], [(b18, _)]]) (by repeat (first | exact PermM.nil | refine PermM.cons (by repeat (first | exact Ins.here | apply Ins.there)) ?_))) (.row (List.Mem.head _) (SegL.seg (m := 1) (by repeat (first | exact SegL.done | apply SegL.take | apply SegL.skip))).1 rfl) (fun _ => rfl) encB_one (by rw [List.length_append, List.length_append, List.length_append]; simp only [List.length_cons, List.length_nil]; omega) rfl rfl rfl rfl) ?_
  rintro ov5 _ ⟨B5, ho5, rfl⟩
  refine rg_q (.inl rfl) rfl rfl (by exact QW.qr (qw_assign rfl)) ?_
  refine rg_nil ?_
  refine qg_then ?_
  refine cg_ret ?_
  exact qg_end_sp (.inl rfl) _ (.cons (.tmp rfl) (.nil)) _ (cat_sub (ls' := [B5]) (ls := [B5, [(b32, _)], [(b25, _)], [(b18, _)]]) (by repeat (first | exact SubM.nil | refine SubM.cons (by repeat (first | exact Ins.here | apply Ins.there)) ?_))) ⟨B5, ho5, rfl⟩

end Go.Proofs.YthmicniimofagaaGreat