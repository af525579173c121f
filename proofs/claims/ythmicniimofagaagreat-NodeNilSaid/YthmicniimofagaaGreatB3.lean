/-
  THE WALKS of octet's reading of a number. Conditions: the bytes are there.
-/
import Derived.Test.YthmicniimofagaaGreatB2
namespace Go.Proofs.YthmicniimofagaaGreat
open Fw
open Go.Proofs (encStr)
set_option linter.unusedVariables false
set_option maxRecDepth 100000

theorem be_step {bs : Bytes} {k : Nat} (hk : k < bs.length) : beN (bs.take (k + 1)) = beN (bs.take k) * 256 + bs[k].toNat := by
  rw [List.take_succ_eq_append_getElem hk, beN_snoc]

theorem of_ca (bs : Bytes) (pv : Value) (hsz : bs.length ≤ 1000000) (O : Out) (L : List Blk) (hp : RdL L encB 1 pv bs) :
    CA Tryz.prog 111 [pv] O L fun v L' => ∃ b sv B, v = PT b ∧ OwnL 5 encB 1 sv bs B ∧ L' = (b, .cells [sv, I 0].toArray 309 (0, 0)) :: (B ++ L) := by
  obtain ⟨p, cap, rfl, hqp⟩ := id hp
  refine ca_enter Tryz.func111 rfl rfl ?_
  rw [Tryz.ntmps111]
  simp only [envOf]
  refine cg_seq ?_
  refine cg_region ?_
  refine rg_q (.inl rfl) rfl rfl (by exact QW.qr (qw_assign rfl)) ?_
  refine rg_nil ?_
  refine qg_then ?_
  refine cg_seq ?_
  refine cg_region ?_
  refine rg_e (.inl rfl) rfl rfl (by exact ev_buildSlice (.nil) rfl (by first | exact CellsOf.agg | exact CellsOf.one rfl) (by rfl) (.nil)) ?_
  rintro _ _ ⟨b3, rfl, rfl⟩
  rw [rep8]
  refine rg_q (.inl rfl) rfl rfl (by exact QW.qr (qw_move rfl)) ?_
  refine rg_e (.inl rfl) rfl rfl (by exact ev_appendL (xs := []) (ys := bs) (T := 39) (T2 := 39) (B := [(b3, _)]) (.cons rfl (.cons rfl .nil)) rfl rfl (own0B b3) (R := L) (List.Perm.refl _) hp.src (fun _ => rfl) encB_one (by simpa using hsz) rfl rfl rfl rfl) ?_
  rintro sv _ ⟨B, ho, rfl⟩
  obtain ⟨ps, cs, rfl, hqs⟩ := id (ho.rd (fun _ => rfl) (by decide))
  refine rg_q (.inl rfl) rfl rfl (by exact QW.qr (qw_build (.cons rfl (.nil)) rfl (.cons rfl (by first | exact CellsOf.agg | exact CellsOf.one rfl) (by repeat (first | exact SetSeg.done | apply SetSeg.take | apply SetSeg.skip)) (by rfl) (by rfl) (.nil)))) ?_
  refine rg_e (.inl rfl) rfl rfl (by exact ev_box rfl (by first | exact CellsOf.agg | exact CellsOf.one rfl)) ?_
  rintro _ _ ⟨b7, rfl, rfl⟩
  refine rg_q (.inl rfl) rfl rfl (by exact QW.qr (qw_assign rfl)) ?_
  refine rg_nil ?_
  refine qg_then ?_
  refine cg_ret ?_
  exact qg_end (.inl rfl) _ (.cons (.tmp rfl) (.nil)) _ (List.Sublist.refl _) ⟨b7, _, B, rfl, ho, rfl⟩

theorem bad_ca (b : Nat) (sv : Value) (e : Int) (O : Out) (L : List Blk) (hm : (b, Obj.cells [sv, I e].toArray 309 (0, 0)) ∈ L) :
    CA Tryz.prog 119 [PT b] O L fun v L' => v = I e ∧ L' = L := by
  unfold PT
  refine ca_enter Tryz.func119 rfl rfl ?_
  rw [Tryz.ntmps119]
  simp only [envOf]
  refine cg_seq ?_
  refine cg_region ?_
  refine rg_q (.inl rfl) rfl rfl (by exact QW.qr (qw_assign rfl)) ?_
  refine rg_nil ?_
  refine qg_then ?_
  refine cg_seq ?_
  refine cg_seq ?_
  refine cg_region ?_
  refine rg_q (.inl rfl) rfl rfl (by exact QW.qr (qw_move rfl)) ?_
  refine rg_q (.inl rfl) rfl rfl (by exact QW.qr (qw_eql_ptr (e := 309) rfl rfl)) ?_
  refine rg_nil ?_
  refine qg_then ?_
  refine cg_false rfl ?_
  refine cg_skip ?_
  refine qg_then ?_
  refine cg_seq ?_
  refine cg_region ?_
  refine rg_q (.inl rfl) rfl rfl (by exact QW.qr (qw_move rfl)) ?_
  refine rg_q (.inl rfl) rfl rfl (by exact QW.qr (qw_nilCheck rfl)) ?_
  refine rg_q (.inl rfl) rfl rfl (by exact QW.qr (qw_fieldAddr rfl)) ?_
  refine rg_q (.inl rfl) rfl rfl (by exact qr_load1 rfl hm rfl) ?_
  refine rg_q (.inl rfl) rfl rfl (by exact QW.qr (qw_assign rfl)) ?_
  refine rg_nil ?_
  refine qg_then ?_
  refine cg_ret ?_
  exact qg_end (.inl rfl) _ (.cons (.tmp rfl) (.nil)) _ (by repeat (first | exact List.Sublist.refl _ | exact List.nil_sublist _ | exact List.sublist_append_right _ _ | apply List.Sublist.cons_cons | apply List.Sublist.cons | refine List.Sublist.trans ?_ (List.sublist_append_right _ _))) ⟨rfl, rfl⟩

theorem cut_ca (b b0 o0 n len cap : Nat) (hn : n ≤ len) (hlc : len ≤ cap) (hl : len < 1000000) (O : Out) (L : List Blk) :
    CA Tryz.prog 223 [PT b, I n] O ((b, .cells [.slice (some ⟨b0, o0, none⟩) len cap, I 0].toArray 309 (0, 0)) :: L) fun v L' => v = .slice (some ⟨b0, o0, none⟩) n cap ∧ ∃ sv, L' = (b, .cells [sv, I 0].toArray 309 (0, 0)) :: L := by
  unfold PT
  refine ca_enter Tryz.func223 rfl rfl ?_
  rw [Tryz.ntmps223]
  simp only [envOf]
  refine cg_seq ?_
  refine cg_region ?_
  refine rg_q (.inl rfl) rfl rfl (by exact QW.qr (qw_assign rfl)) ?_
  refine rg_nil ?_
  refine qg_then ?_
  refine cg_seq ?_
  refine cg_seq ?_
  refine cg_region ?_
  refine rg_q (.inl rfl) rfl rfl (by exact QW.qr (qw_move rfl)) ?_
  refine rg_e (.inl rfl) rfl rfl (by exact ev_call0 rfl (.cons rfl (.nil)) (bad_ca b _ 0 O _ (List.Mem.head _))) ?_
  rintro _ _ ⟨rfl, rfl⟩
  refine rg_q (.inl rfl) rfl rfl (by exact QW.qr (qw_neq_f rfl rfl (fun h => h rfl))) ?_
  refine rg_nil ?_
  refine qg_then ?_
  refine cg_false rfl ?_
  refine cg_skip ?_
  refine qg_then ?_
  refine cg_seq ?_
  refine cg_seq ?_
  refine cg_region ?_
  refine rg_q (.inl rfl) rfl rfl (by exact QW.qr (qw_move rfl)) ?_
  refine rg_q (.inl rfl) rfl rfl (by exact QW.qr (qw_move rfl)) ?_
  refine rg_q (.inl rfl) rfl rfl (by exact QW.qr (qw_nilCheck rfl)) ?_
  refine rg_q (.inl rfl) rfl rfl (by exact QW.qr (qw_fieldAddr rfl)) ?_
  refine rg_q (.inl rfl) rfl rfl (by exact qr_load1 rfl (by repeat (first | exact List.Mem.head _ | apply List.Mem.tail | apply List.mem_append_right | assumption)) rfl) ?_
  refine rg_q (.inl rfl) rfl rfl (by exact QW.qr (qw_len_slice (t := 39) (.cons rfl (.nil)) rfl)) ?_
  refine rg_q (.inl rfl) rfl rfl (by exact QW.qr (qw_gtr_f rfl rfl (by omega))) ?_
  refine rg_nil ?_
  refine qg_then ?_
  refine cg_false rfl ?_
  refine cg_skip ?_
  refine qg_then ?_
  refine cg_seq ?_
  refine cg_region ?_
  refine rg_q (.inl rfl) rfl rfl (by exact QW.qr (qw_move rfl)) ?_
  refine rg_q (.inl rfl) rfl rfl (by exact QW.qr (qw_nilCheck rfl)) ?_
  refine rg_q (.inl rfl) rfl rfl (by exact QW.qr (qw_fieldAddr rfl)) ?_
  refine rg_q (.inl rfl) rfl rfl (by exact qr_load1 rfl (by repeat (first | exact List.Mem.head _ | apply List.Mem.tail | apply List.mem_append_right | assumption)) rfl) ?_
  refine rg_q (.inl rfl) rfl rfl (by exact QW.qr (qw_move rfl)) ?_
  refine rg_q (.inl rfl) rfl rfl (by exact QW.qr (qw_slice_hi (fun _ h => by cases h; rfl) rfl rfl (by omega) (by omega))) ?_
  refine rg_q (.inl rfl) rfl rfl (by exact QW.qr (qw_assign rfl)) ?_
  refine rg_nil ?_
  refine qg_then ?_
  refine cg_seq ?_
  refine cg_region ?_
  refine rg_q (.inl rfl) rfl rfl (by exact QW.qr (qw_move rfl)) ?_
  refine rg_q (.inl rfl) rfl rfl (by exact QW.qr (qw_move rfl)) ?_
  refine rg_q (.inl rfl) rfl rfl (by exact QW.qr (qw_nilCheck rfl)) ?_
  refine rg_q (.inl rfl) rfl rfl (by exact QW.qr (qw_fieldAddr rfl)) ?_
  refine rg_q (.inl rfl) rfl rfl (by exact qr_load1 rfl (by repeat (first | exact List.Mem.head _ | apply List.Mem.tail | apply List.mem_append_right | assumption)) rfl) ?_
  refine rg_q (.inl rfl) rfl rfl (by exact QW.qr (qw_move rfl)) ?_
  refine rg_q (.inl rfl) rfl rfl (by exact QW.qr (qw_slice_lo rfl rfl (by omega) (by omega))) ?_
  refine rg_q (.inl rfl) rfl rfl (by exact QW.qr (qw_nilCheck rfl)) ?_
  refine rg_q (.inl rfl) rfl rfl (by exact QW.qr (qw_fieldAddr rfl)) ?_
  refine rg_e0 (.inl rfl) rfl (by exact ev_store rfl rfl (by first | exact CellsOf.agg | exact CellsOf.one rfl) (by repeat (first | exact List.Mem.head _ | apply List.Mem.tail | apply List.mem_append_right | assumption)) (by repeat (first | exact SetSeg.done | apply SetSeg.take | apply SetSeg.skip)) rfl rfl (by repeat (first | exact Upd.here | apply Upd.there | apply Upd.app)) (by first | exact Or.inl ⟨inferInstance, rfl⟩ | exact Or.inr inferInstance)) ?_
  rintro _ _ ⟨rfl, rfl⟩
  refine rg_nil ?_
  refine qg_then ?_
  refine cg_seq ?_
  refine cg_region ?_
  refine rg_q (.inl rfl) rfl rfl (by exact QW.qr (qw_move rfl)) ?_
  refine rg_q (.inl rfl) rfl rfl (by exact QW.qr (qw_assign rfl)) ?_
  refine rg_nil ?_
  refine qg_then ?_
  refine cg_ret ?_
  exact qg_end (.inl rfl) _ (.cons (.tmp rfl) (.nil)) _ (List.Sublist.refl _) ⟨rfl, _, rfl⟩

theorem inNum_ca (b b0 o0 n len cap : Nat) (bs : Bytes) (hn : n ≤ len) (hlc : len ≤ cap) (hl : len < 1000000) (hn7 : n ≤ 7) (hbs : bs.length = n) (t0 : TypeId) (A0 : Array Value) (fz0 : Nat × Nat) (O : Out) (L : List Blk) (hm : (b0, Obj.cells A0 t0 fz0) ∈ L) (hs : Seg A0 o0 (bs.flatMap encB)) :
    CA Tryz.prog 176 [PT b, I n] O ((b, .cells [.slice (some ⟨b0, o0, none⟩) len cap, I 0].toArray 309 (0, 0)) :: L) fun v L' => v = U (beN bs) ∧ ∃ sv, L' = (b, .cells [sv, I 0].toArray 309 (0, 0)) :: L := by
  refine ca_enter Tryz.func176 rfl rfl ?_
  rw [Tryz.ntmps176]
  simp only [envOf]
  refine cg_seq ?_
  refine cg_region ?_
  refine rg_q (.inl rfl) rfl rfl (by exact QW.qr (qw_assign rfl)) ?_
  refine rg_nil ?_
  refine qg_then ?_
  refine cg_seq ?_
  refine cg_region ?_
  refine rg_q (.inl rfl) rfl rfl (by exact QW.qr (qw_assign rfl)) ?_
  refine rg_nil ?_
  refine qg_then ?_
  refine cg_seq ?_
  refine cg_seq ?_
  refine cg_region ?_
  refine rg_q (.inl rfl) rfl rfl (by exact QW.qr (qw_move rfl)) ?_
  refine rg_q (.inl rfl) rfl rfl (by exact QW.qr (qw_move rfl)) ?_
  refine rg_e (.inl rfl) rfl rfl (by exact ev_call0 rfl (.cons rfl (.cons rfl (.nil))) (cut_ca b b0 o0 n len cap hn hlc hl O L)) ?_
  rintro _ _ ⟨rfl, sv, rfl⟩
  refine rg_q (.inl rfl) rfl rfl (by exact QW.qr (qw_len_slice (t := 39) (.cons rfl (.nil)) rfl)) ?_
  refine rg_q (.inl rfl) rfl rfl (by exact QW.qr (qw_move rfl)) ?_
  refine rg_nil ?_
  refine qg_then ?_
  refine cg_block ?_
  refine cg_loop (fun E' L' m => ∃ k : Nat, k ≤ n ∧ E' = [(5, U (beN (bs.take k))), (10, .slice (some ⟨b0, o0, none⟩) n cap), (11, .int .i64 n), (12, .int .i64 k)] ∧ L' = (b, .cells [sv, I 0].toArray 309 (0, 0)) :: L ∧ m = n - k)
    _ _ _ ⟨0, by omega, rfl, rfl, rfl⟩ (by repeat (first | exact Sub.nil | refine Sub.cons rfl ?_ | refine Sub.cons (congrArg (fun z => some (Value.int IntKind.i64 z)) (by omega)) ?_)) (List.Perm.refl _) ?_
  rintro _ _ _ ⟨k, hk, rfl, rfl, rfl⟩
  refine cg_seq ?_
  refine cg_region ?_
  refine rg_split (.inl rfl) rfl rfl (by exact qc_lss rfl rfl) ?_ ?_
  · intro hlt
    have hklt : k < n := by omega
    have hkb : k < bs.length := by omega
    have hg : A0[o0 + (k : Int).toNat * 1]? = some (.int .u8 (bs[k].toNat : Int)) := seg_b hs (List.getElem?_eq_getElem hkb) (by simp)
    have hlt2 : beN (bs.take k) < 2 ^ 56 := by
      have h1 := beN_lt (bs.take k).length (bs.take k) rfl
      have h2 : (bs.take k).length ≤ 7 := by rw [List.length_take]; omega
      have h3 : 256 ^ (bs.take k).length ≤ 256 ^ 7 := Nat.pow_le_pow_right (by decide) h2
      omega
    refine rg_nil ?_
    refine qg_then ?_
    refine cg_seq ?_
    refine cg_true rfl ?_
    refine cg_skip ?_
    refine qg_then ?_
    refine cg_seq ?_
    refine cg_block ?_
    refine cg_seq ?_
    refine cg_region ?_
    refine rg_q (.inl rfl) rfl rfl (by exact QW.qr (qw_indexAddr rfl rfl (by omega) (by omega))) ?_
    refine rg_q (.inl rfl) rfl rfl (by exact qr_load1' rfl (List.mem_cons_of_mem _ hm) hg) ?_
    refine rg_q (.inl rfl) rfl rfl (by exact QW.qr (qw_assign rfl)) ?_
    refine rg_nil ?_
    refine qg_then ?_
    refine cg_region ?_
    refine rg_q (.inl rfl) rfl rfl (by exact QW.qr (qw_move rfl)) ?_
    refine rg_q (.inl rfl) rfl rfl (by exact QW.qr (qw_shl rfl rfl (by decide))) ?_
    refine rg_q (.inl rfl) rfl rfl (by exact QW.qr (qw_move rfl)) ?_
    refine rg_q (.inl rfl) rfl rfl (by exact QW.qr (qw_conv_in rfl (by have := bs[k].toNat_lt; unfold inK; omega))) ?_
    refine rg_q (.inl rfl) rfl rfl (by exact QW.qr (qw_val (qw_or rfl rfl) (congrArg (Value.int .u64) (shl_or hlt2)))) ?_
    refine rg_q (.inl rfl) rfl rfl (by exact QW.qr (qw_assign rfl)) ?_
    refine rg_nil ?_
    refine qg_block ?_
    refine qg_then ?_
    refine cg_region ?_
    refine rg_q (.inl rfl) rfl rfl (by exact QW.qr (qw_add_in rfl rfl (by unfold inK; omega))) ?_
    refine rg_q (.inl rfl) rfl rfl (by exact QW.qr (qw_move rfl)) ?_
    refine rg_nil ?_
    exact qg_round _ _ _ ⟨k + 1, by omega, by rw [be_step hkb], rfl, rfl⟩ (by repeat (first | exact Sub.nil | refine Sub.cons rfl ?_ | refine Sub.cons (congrArg (fun z => some (Value.int IntKind.i64 z)) (by omega)) ?_)) (List.Perm.refl _) (by omega)
  · intro hlt
    obtain rfl : k = n := by omega
    rw [List.take_of_length_le (by omega)]
    refine rg_nil ?_
    refine qg_then ?_
    refine cg_seq ?_
    refine cg_false rfl ?_
    refine cg_exit ?_
    refine qg_then_exit ?_
    refine qg_then_exit ?_
    refine qg_block_here ?_
    refine qg_then ?_
    refine cg_seq ?_
    refine cg_region ?_
    refine rg_q (.inl rfl) rfl rfl (by exact QW.qr (qw_move rfl)) ?_
    refine rg_q (.inl rfl) rfl rfl (by exact QW.qr (qw_assign rfl)) ?_
    refine rg_nil ?_
    refine qg_then ?_
    refine cg_ret ?_
    exact qg_end (.inl rfl) _ (.cons (.tmp rfl) (.nil)) _ (List.Sublist.refl _) ⟨rfl, sv, rfl⟩

theorem inFour_ca (b b0 o0 len cap : Nat) (bs : Bytes) (hn : 4 ≤ len) (hlc : len ≤ cap) (hl : len < 1000000) (hbs : bs.length = 4) (t0 : TypeId) (A0 : Array Value) (fz0 : Nat × Nat) (O : Out) (L : List Blk) (hm : (b0, Obj.cells A0 t0 fz0) ∈ L) (hs : Seg A0 o0 (bs.flatMap encB)) :
    CA Tryz.prog 113 [PT b] O ((b, .cells [.slice (some ⟨b0, o0, none⟩) len cap, I 0].toArray 309 (0, 0)) :: L) fun v L' => v = U32 (beN bs) ∧ ∃ sv, L' = (b, .cells [sv, I 0].toArray 309 (0, 0)) :: L := by
  refine ca_enter Tryz.func113 rfl rfl ?_
  rw [Tryz.ntmps113]
  simp only [envOf]
  refine cg_seq ?_
  refine cg_region ?_
  refine rg_q (.inl rfl) rfl rfl (by exact QW.qr (qw_assign rfl)) ?_
  refine rg_nil ?_
  refine qg_then ?_
  refine cg_seq ?_
  refine cg_region ?_
  refine rg_q (.inl rfl) rfl rfl (by exact QW.qr (qw_move rfl)) ?_
  refine rg_e (.inl rfl) rfl rfl (by exact ev_call0 rfl (.cons rfl (.cons rfl (.nil))) (inNum_ca b b0 o0 4 len cap bs hn hlc hl (by decide) hbs t0 A0 fz0 O L hm hs)) ?_
  rintro _ _ ⟨rfl, sv, rfl⟩
  have hlt := beN_lt 4 bs hbs
  refine rg_q (.inl rfl) rfl rfl (by exact QW.qr (qw_conv_in rfl (by unfold inK; omega))) ?_
  refine rg_q (.inl rfl) rfl rfl (by exact QW.qr (qw_assign rfl)) ?_
  refine rg_nil ?_
  refine qg_then ?_
  refine cg_ret ?_
  exact qg_end (.inl rfl) _ (.cons (.tmp rfl) (.nil)) _ (List.Sublist.refl _) ⟨rfl, sv, rfl⟩

/-- octet.Of(p).Four(): of four bytes, what they say. -/
theorem ofFour (sv : Value) (bs : Bytes) (B : List Blk) (ho : OwnL 5 encB 1 sv bs B) (hbs : 4 ≤ bs.length) (hl : bs.length < 1000000) (b : Nat) (O : Out) (L : List Blk) :
    CA Tryz.prog 113 [PT b] O ((b, .cells [sv, I 0].toArray 309 (0, 0)) :: (B ++ L)) fun v L' => v = U32 (beN (bs.take 4)) ∧ ∃ sv2, L' = (b, .cells [sv2, I 0].toArray 309 (0, 0)) :: (B ++ L) := by
  obtain ⟨b0, cap, rest, rfl, rfl, hc, hle⟩ := ho.view (fun _ => rfl) (by decide) (by omega)
  exact inFour_ca b b0 0 bs.length cap (bs.take 4) hbs hle hl (by rw [List.length_take]; omega) _ _ _ O _ (List.mem_append_left _ (List.Mem.head _)) (seg_take (enc := encB) (fun _ => rfl) seg_pre 4)
end Go.Proofs.YthmicniimofagaaGreat