/-
  THE WALK of the document's Tell: what bytes tell. Conditions: sizes.
-/
import Derived.Test.YtcbbogaanebefaaB30
namespace Go.Proofs.Ytcbbogaanebefaa
open Fw
open Go.Proofs (encStr)
set_option linter.unusedVariables false
set_option linter.unusedSimpArgs false
set_option maxRecDepth 100000
set_option maxHeartbeats 2000000

theorem beN4 (q : Bytes) (h : 4 ≤ q.length) : ((q.getD 0 0).toNat : Int) * 16777216 + ((q.getD 1 0).toNat : Int) * 65536 + ((q.getD 2 0).toNat : Int) * 256 + ((q.getD 3 0).toNat : Int) = (beN (q.take 4) : Int) := by
  match q, h with
  | b0 :: b1 :: b2 :: b3 :: r, _ =>
    simp [beN]
    omega
theorem str_get {bs : Bytes} {i : Nat} (h : i < bs.length) : (⟨bs.toArray⟩ : ByteArray)[i]? = some (bs.getD i 0) := by
  have h2 : i < (⟨bs.toArray⟩ : ByteArray).size := by show i < bs.toArray.size; simpa using h
  rw [getElem?_pos (⟨bs.toArray⟩ : ByteArray) i h2, List.getD_eq_getElem?_getD, List.getElem?_eq_getElem h]
  rfl
theorem putG_length (h : Kept) (k v : Bytes) : (putG h k v).length ≤ h.length + 1 := by
  unfold putG
  split
  · rw [List.length_map]; omega
  · rw [List.length_append]; simp
theorem delG_length (h : Kept) (k : Bytes) : (delG h k).length ≤ h.length := by
  unfold delG
  exact List.length_filter_le _ _

theorem rtell_ca (bs : Bytes) (pv : Value) (O : Out) (L : List Blk) (hp : RdL L encB 1 pv bs) (hsz : bs.length ≤ 300000) :
    CA Try.prog 46 [pv] O L fun v L' => ∃ lv B, v = .tuple #[U32 (tell bs).life, .bool (tell bs).shut, lv] ∧ OwnL 100 encE 2 lv (srt (tell bs).has) B ∧ L' = B ++ L := by
  obtain ⟨p, cap, rfl, _, hcap, hspp, hR⟩ := id hp
  refine ca_enter Try.func46 rfl rfl ?_
  rw [Try.ntmps46]
  simp only [envOf]
  refine cg_seq ?_
  refine cg_region ?_
  refine rg_q (.inl rfl) rfl rfl (by exact QW.qr (qw_assign rfl)) ?_
  refine rg_q (.inl rfl) rfl rfl (by exact QW.qr (qw_assign rfl)) ?_
  refine rg_q (.inl rfl) rfl rfl (by exact QW.qr (qw_assign rfl)) ?_
  refine rg_nil ?_
  refine qg_then ?_
  refine cg_seq ?_
  refine cg_region ?_
  refine rg_q (.inl rfl) rfl rfl (by exact QW.qr (qw_assign rfl)) ?_
  refine rg_q (.inl rfl) rfl rfl (by exact QW.qr (qw_assign rfl)) ?_
  refine rg_nil ?_
  refine qg_then ?_
  refine cg_seq ?_
  refine cg_region ?_
  refine rg_q (.inl rfl) rfl rfl (by exact QW.qr (qw_assign rfl)) ?_
  refine rg_nil ?_
  refine qg_then ?_
  refine cg_seq ?_
  refine cg_region ?_
  refine rg_q (.inl rfl) rfl rfl (by exact QW.qr (qw_assign rfl)) ?_
  refine rg_q (.inl rfl) rfl rfl (by exact QW.qr (qw_assign rfl)) ?_
  refine rg_nil ?_
  refine qg_then ?_
  refine cg_seq ?_
  refine cg_block ?_
  refine cg_loop (fun E' L' m => ∃ (a c f : Nat) (t : Tale) (lv : Value) (B : List Blk), a ≤ bs.length ∧ c ≤ a ∧ t.has.length ≤ c ∧ (bs.drop a).length < f ∧ tell bs = tellN f (decide ((c : Int) = 0)) t (bs.drop a) ∧ (t.has.map Prod.fst).Nodup ∧ OwnL 100 encE 2 lv (srt t.has) B ∧ E' = [(0, .slice p bs.length cap), (5, U32 t.life), (6, .bool t.shut), (7, lv), (8, I a), (9, I c)] ∧ L' = cat [B] L ∧ m = f + 1)
    _ _ _ ⟨0, 0, bs.length + 1, ⟨0, false, []⟩, _, [], by omega, by omega, by simp, by simp, rfl, by simp, by rw [srt_nil]; exact OwnL.nil, rfl, rfl, rfl⟩ (by repeat (first | exact Sub.nil | refine Sub.cons rfl ?_ | refine Sub.cons (congrArg (fun z => some (Value.int IntKind.i64 z)) (by omega)) ?_)) (List.Perm.refl _) ?_
  rintro _ _ _ ⟨a, c, f, t, lv, B, ha, hca, htl, hqf, hT, hnd, hown, rfl, rfl, rfl⟩
  obtain ⟨f, rfl⟩ : ∃ f2, f = f2 + 1 := ⟨f - 1, by omega⟩
  have hql : (bs.drop a).length = bs.length - a := List.length_drop
  obtain ⟨q, hq⟩ : ∃ q, q = bs.drop a := ⟨_, rfl⟩
  rw [← hq] at hqf hT hql
  obtain ⟨pl, cl, rfl, _⟩ := id (hown.rd (fun _ => rfl) (by decide))
  have hsl := srt_len t.has
  refine cg_seq ?_
  refine cg_seq ?_
  refine cg_region ?_
  refine rg_q (.inl rfl) rfl rfl (by exact QW.qr (qw_move rfl)) ?_
  refine rg_q (.inl rfl) rfl rfl (by exact QW.qr (qw_add_in rfl rfl (by unfold inK; omega))) ?_
  refine rg_q (.inl rfl) rfl rfl (by exact QW.qr (qw_move rfl)) ?_
  refine rg_q (.inl rfl) rfl rfl (by exact QW.qr (qw_len_slice (t := 36) (.cons rfl (.nil)) rfl)) ?_
  refine rg_split (.inl rfl) rfl rfl (by exact qc_leq rfl rfl) ?_ ?_
  · intro h4
    have hq4n : ¬ q.length < 4 := by omega
    obtain ⟨b0, o0, A0, t0, fz0, rfl, hm0, hseg0⟩ := hR (by omega)
    have hseg := seg_drop (enc := encB) (fun _ => rfl) hseg0 a
    rw [← hq] at hseg
    have hget : ∀ i : Nat, i < q.length → A0[o0 + a + i]? = some (.int .u8 ((q.getD i 0).toNat : Int)) := fun i hi => seg_b hseg (getD_get hi) rfl
    have hN4 := beN4 q (by omega)
    have hNlt := beN_lt 4 (q.take 4) (by rw [List.length_take]; omega)
    generalize hN : beN (q.take 4) = N at hN4 hNlt
    have c0 : (q.getD 0 0).toNat < 256 := UInt8.toNat_lt _
    have c1 : (q.getD 1 0).toNat < 256 := UInt8.toNat_lt _
    have c2 : (q.getD 2 0).toNat < 256 := UInt8.toNat_lt _
    have c3 : (q.getD 3 0).toNat < 256 := UInt8.toNat_lt _
    have c4 : (q.getD 4 0).toNat < 256 := UInt8.toNat_lt _
    have c5 : (q.getD 5 0).toNat < 256 := UInt8.toNat_lt _
    refine rg_nil ?_
    refine qg_then ?_
    refine cg_true rfl ?_
    refine cg_skip ?_
    refine qg_then ?_
    refine cg_block ?_
    refine cg_seq ?_
    refine cg_draw follows (.op 0 false (.op 1 false (.op 2 false (.op 3 false (.op 4 false (.op 5 false (.op 6 false (.op 7 false (.op 8 false (.op 9 false (.op 10 false (.op 11 false (.op 12 false (.op 13 false (.op 14 false (.op 15 false (.op 16 false (.op 17 false (.op 18 false (.op 19 false (.op 20 false (.op 21 false (.op 22 false (.op 23 false (.op 24 false (.op 25 false (.op 26 false (.op 27 false (.op 28 false (.op 29 false .done)))))))))))))))))))))))))))))) _ (by kernel_rfl) (SubP.of (List.Sublist.refl _)) ?_
    refine dg_w rfl rfl (.inl rfl) rfl rfl (by exact qw_move rfl) ?_
    refine dg_w rfl rfl (.inl rfl) rfl rfl (by exact qw_move rfl) ?_
    refine dg_w rfl rfl (.inl rfl) rfl rfl (by exact qw_indexAddr rfl rfl (by omega) (by omega)) ?_
    refine dg_r rfl rfl rfl (.inl rfl) rfl rfl (by exact qr_load1' rfl (by repeat (first | exact List.Mem.head _ | apply List.Mem.tail | apply List.mem_append_right | assumption)) (by rw [show o0 + (a : Int).toNat * 1 = o0 + a + 0 from by omega]; exact hget 0 (by omega))) ?_
    refine dg_w rfl rfl (.inl rfl) rfl rfl (by exact qw_conv_in rfl (by unfold inK; omega)) ?_
    refine dg_w rfl rfl (.inl rfl) rfl rfl (by exact qw_mul_in rfl rfl (by unfold inK; omega)) ?_
    refine dg_w rfl rfl (.inl rfl) rfl rfl (by exact qw_move rfl) ?_
    refine dg_w rfl rfl (.inl rfl) rfl rfl (by exact qw_move rfl) ?_
    refine dg_w rfl rfl (.inl rfl) rfl rfl (by exact qw_add_in rfl rfl (by unfold inK; omega)) ?_
    refine dg_w rfl rfl (.inl rfl) rfl rfl (by exact qw_indexAddr rfl rfl (by omega) (by omega)) ?_
    refine dg_r rfl rfl rfl (.inl rfl) rfl rfl (by exact qr_load1' rfl (by repeat (first | exact List.Mem.head _ | apply List.Mem.tail | apply List.mem_append_right | assumption)) (by rw [show o0 + ((a : Int) + 1).toNat * 1 = o0 + a + 1 from by omega]; exact hget 1 (by omega))) ?_
    refine dg_w rfl rfl (.inl rfl) rfl rfl (by exact qw_conv_in rfl (by unfold inK; omega)) ?_
    refine dg_w rfl rfl (.inl rfl) rfl rfl (by exact qw_mul_in rfl rfl (by unfold inK; omega)) ?_
    refine dg_w rfl rfl (.inl rfl) rfl rfl (by exact qw_add_in rfl rfl (by unfold inK; omega)) ?_
    refine dg_w rfl rfl (.inl rfl) rfl rfl (by exact qw_move rfl) ?_
    refine dg_w rfl rfl (.inl rfl) rfl rfl (by exact qw_move rfl) ?_
    refine dg_w rfl rfl (.inl rfl) rfl rfl (by exact qw_add_in rfl rfl (by unfold inK; omega)) ?_
    refine dg_w rfl rfl (.inl rfl) rfl rfl (by exact qw_indexAddr rfl rfl (by omega) (by omega)) ?_
    refine dg_r rfl rfl rfl (.inl rfl) rfl rfl (by exact qr_load1' rfl (by repeat (first | exact List.Mem.head _ | apply List.Mem.tail | apply List.mem_append_right | assumption)) (by rw [show o0 + ((a : Int) + 2).toNat * 1 = o0 + a + 2 from by omega]; exact hget 2 (by omega))) ?_
    refine dg_w rfl rfl (.inl rfl) rfl rfl (by exact qw_conv_in rfl (by unfold inK; omega)) ?_
    refine dg_w rfl rfl (.inl rfl) rfl rfl (by exact qw_mul_in rfl rfl (by unfold inK; omega)) ?_
    refine dg_w rfl rfl (.inl rfl) rfl rfl (by exact qw_add_in rfl rfl (by unfold inK; omega)) ?_
    refine dg_w rfl rfl (.inl rfl) rfl rfl (by exact qw_move rfl) ?_
    refine dg_w rfl rfl (.inl rfl) rfl rfl (by exact qw_move rfl) ?_
    refine dg_w rfl rfl (.inl rfl) rfl rfl (by exact qw_add_in rfl rfl (by unfold inK; omega)) ?_
    refine dg_w rfl rfl (.inl rfl) rfl rfl (by exact qw_indexAddr rfl rfl (by omega) (by omega)) ?_
    refine dg_r rfl rfl rfl (.inl rfl) rfl rfl (by exact qr_load1' rfl (by repeat (first | exact List.Mem.head _ | apply List.Mem.tail | apply List.mem_append_right | assumption)) (by rw [show o0 + ((a : Int) + 3).toNat * 1 = o0 + a + 3 from by omega]; exact hget 3 (by omega))) ?_
    refine dg_w rfl rfl (.inl rfl) rfl rfl (by exact qw_conv_in rfl (by unfold inK; omega)) ?_
    refine dg_w rfl rfl (.inl rfl) rfl rfl (by exact qw_val (qw_add_in rfl rfl (by unfold inK; omega)) (congrArg (Value.int .i64) hN4)) ?_
    refine dg_w rfl rfl (.inl rfl) rfl rfl (by exact qw_assign rfl) ?_
    refine dg_nil ?_
    refine qg_then ?_
    refine cg_seq ?_
    refine cg_seq ?_
    refine cg_region ?_
    refine rg_q (.inl rfl) rfl rfl (by exact QW.qr (qw_move rfl)) ?_
    refine rg_split (.inl rfl) rfl rfl (by exact qc_lss rfl rfl) ?_ ?_
    · intro h1
      rw [tellN_none (by rw [nextF, if_neg hq4n, if_pos (.inl (by rw [hN]; omega))])] at hT
      refine rg_q (.inl rfl) rfl rfl (by exact QW.qr (qw_move rfl)) ?_
      refine rg_s (guard_mk rfl rfl rfl rfl) rfl rfl ?_
      refine rg_s (guard_mk rfl rfl rfl rfl) rfl rfl ?_
      refine rg_s (guard_mk rfl rfl rfl rfl) rfl rfl ?_
      refine rg_s (guard_mk rfl rfl rfl rfl) rfl rfl ?_
      refine rg_s (guard_mk rfl rfl rfl rfl) rfl rfl ?_
      refine rg_s (guard_mk rfl rfl rfl rfl) rfl rfl ?_
      refine rg_s (guard_mk rfl rfl rfl rfl) rfl rfl ?_
      refine rg_q (.inl rfl) rfl rfl (by exact QW.qr (qw_pick_t rfl rfl)) ?_
      refine rg_q (.inl rfl) rfl rfl (by exact QW.qr (qw_move rfl)) ?_
      refine rg_s (guard_mk rfl rfl rfl rfl) rfl rfl ?_
      refine rg_s (guard_mk rfl rfl rfl rfl) rfl rfl ?_
      refine rg_s (guard_mk rfl rfl rfl rfl) rfl rfl ?_
      refine rg_s (guard_mk rfl rfl rfl rfl) rfl rfl ?_
      refine rg_s (guard_mk rfl rfl rfl rfl) rfl rfl ?_
      refine rg_s (guard_mk rfl rfl rfl rfl) rfl rfl ?_
      refine rg_s (guard_mk rfl rfl rfl rfl) rfl rfl ?_
      refine rg_s (guard_mk rfl rfl rfl rfl) rfl rfl ?_
      refine rg_q (.inl rfl) rfl rfl (by exact QW.qr (qw_pick_t rfl rfl)) ?_
      refine rg_nil ?_
      refine qg_then ?_
      refine cg_true rfl ?_
      refine cg_exit ?_
      refine qg_then_exit ?_
      refine qg_block_on rfl ?_
      refine qg_then_exit ?_
      refine qg_block_here ?_
      refine qg_then ?_
      refine cg_seq ?_
      refine cg_region ?_
      refine rg_q (.inl rfl) rfl rfl (by exact QW.qr (qw_move rfl)) ?_
      refine rg_q (.inl rfl) rfl rfl (by exact QW.qr (qw_move rfl)) ?_
      refine rg_q (.inl rfl) rfl rfl (by exact QW.qr (qw_move rfl)) ?_
      refine rg_q (.inl rfl) rfl rfl (by exact QW.qr (qw_assign rfl)) ?_
      refine rg_q (.inl rfl) rfl rfl (by exact QW.qr (qw_assign rfl)) ?_
      refine rg_q (.inl rfl) rfl rfl (by exact QW.qr (qw_assign rfl)) ?_
      refine rg_nil ?_
      refine qg_then ?_
      refine cg_ret ?_
      exact qg_end (.inl rfl) _ (.cons (.tmp rfl) (.cons (.tmp rfl) (.cons (.tmp rfl) (.nil)))) _ (List.Sublist.refl _) ⟨_, B, by rw [hT] <;> rfl, by rw [hT]; exact hown, rfl⟩
    · intro h1
      refine rg_q (.inl rfl) rfl rfl (by exact QW.qr (qw_move rfl)) ?_
      refine rg_q (.inr (guard_mk rfl rfl rfl rfl)) rfl rfl (by exact QW.qr (qw_move rfl)) ?_
      refine rg_q (.inr (guard_mk rfl rfl rfl rfl)) rfl rfl (by exact QW.qr (qw_add_in rfl rfl (by unfold inK; omega))) ?_
      refine rg_q (.inr (guard_mk rfl rfl rfl rfl)) rfl rfl (by exact QW.qr (qw_move rfl)) ?_
      refine rg_q (.inr (guard_mk rfl rfl rfl rfl)) rfl rfl (by exact QW.qr (qw_add_in rfl rfl (by unfold inK; omega))) ?_
      refine rg_q (.inr (guard_mk rfl rfl rfl rfl)) rfl rfl (by exact QW.qr (qw_move rfl)) ?_
      refine rg_q (.inr (guard_mk rfl rfl rfl rfl)) rfl rfl (by exact QW.qr (qw_len_slice (t := 36) (.cons rfl (.nil)) rfl)) ?_
      refine rg_split (.inr (guard_mk rfl rfl rfl rfl)) rfl rfl (by exact qc_geq rfl rfl) ?_ ?_
      · intro h2
        rw [tellN_none (by rw [nextF, if_neg hq4n, if_pos (.inr (.inl (by rw [hN]; omega)))])] at hT
        refine rg_q (.inl rfl) rfl rfl (by exact QW.qr (qw_pick_f rfl rfl)) ?_
        refine rg_q (.inl rfl) rfl rfl (by exact QW.qr (qw_move rfl)) ?_
        refine rg_s (guard_mk rfl rfl rfl rfl) rfl rfl ?_
        refine rg_s (guard_mk rfl rfl rfl rfl) rfl rfl ?_
        refine rg_s (guard_mk rfl rfl rfl rfl) rfl rfl ?_
        refine rg_s (guard_mk rfl rfl rfl rfl) rfl rfl ?_
        refine rg_s (guard_mk rfl rfl rfl rfl) rfl rfl ?_
        refine rg_s (guard_mk rfl rfl rfl rfl) rfl rfl ?_
        refine rg_s (guard_mk rfl rfl rfl rfl) rfl rfl ?_
        refine rg_s (guard_mk rfl rfl rfl rfl) rfl rfl ?_
        refine rg_q (.inl rfl) rfl rfl (by exact QW.qr (qw_pick_t rfl rfl)) ?_
        refine rg_nil ?_
        refine qg_then ?_
        refine cg_true rfl ?_
        refine cg_exit ?_
        refine qg_then_exit ?_
        refine qg_block_on rfl ?_
        refine qg_then_exit ?_
        refine qg_block_here ?_
        refine qg_then ?_
        refine cg_seq ?_
        refine cg_region ?_
        refine rg_q (.inl rfl) rfl rfl (by exact QW.qr (qw_move rfl)) ?_
        refine rg_q (.inl rfl) rfl rfl (by exact QW.qr (qw_move rfl)) ?_
        refine rg_q (.inl rfl) rfl rfl (by exact QW.qr (qw_move rfl)) ?_
        refine rg_q (.inl rfl) rfl rfl (by exact QW.qr (qw_assign rfl)) ?_
        refine rg_q (.inl rfl) rfl rfl (by exact QW.qr (qw_assign rfl)) ?_
        refine rg_q (.inl rfl) rfl rfl (by exact QW.qr (qw_assign rfl)) ?_
        refine rg_nil ?_
        refine qg_then ?_
        refine cg_ret ?_
        exact qg_end (.inl rfl) _ (.cons (.tmp rfl) (.cons (.tmp rfl) (.cons (.tmp rfl) (.nil)))) _ (List.Sublist.refl _) ⟨_, B, by rw [hT] <;> rfl, by rw [hT]; exact hown, rfl⟩
      · intro h2
        refine rg_q (.inl rfl) rfl rfl (by exact QW.qr (qw_pick_f rfl rfl)) ?_
        refine rg_q (.inl rfl) rfl rfl (by exact QW.qr (qw_move rfl)) ?_
        refine rg_q (.inr (guard_mk rfl rfl rfl rfl)) rfl rfl (by exact QW.qr (qw_move rfl)) ?_
        refine rg_q (.inr (guard_mk rfl rfl rfl rfl)) rfl rfl (by exact QW.qr (qw_move rfl)) ?_
        refine rg_q (.inr (guard_mk rfl rfl rfl rfl)) rfl rfl (by exact QW.qr (qw_add_in rfl rfl (by unfold inK; omega))) ?_
        refine rg_q (.inr (guard_mk rfl rfl rfl rfl)) rfl rfl (by exact QW.qr (qw_move rfl)) ?_
        refine rg_q (.inr (guard_mk rfl rfl rfl rfl)) rfl rfl (by exact QW.qr (qw_add_in rfl rfl (by unfold inK; omega))) ?_
        refine rg_q (.inr (guard_mk rfl rfl rfl rfl)) rfl rfl (by exact QW.qr (qw_indexAddr rfl rfl (by omega) (by omega))) ?_
        refine rg_q (.inr (guard_mk rfl rfl rfl rfl)) rfl rfl (by exact qr_load1' rfl (by repeat (first | exact List.Mem.head _ | apply List.Mem.tail | apply List.mem_append_right | assumption)) (by rw [show o0 + ((a : Int) + 4 + (N : Int)).toNat * 1 = o0 + a + (4 + N) from by omega]; exact hget (4 + N) (by omega))) ?_
        refine rg_split (.inr (guard_mk rfl rfl rfl rfl)) rfl rfl (by exact qc_neq rfl rfl) ?_ ?_
        · intro h3
          rw [tellN_none (by rw [nextF, if_neg hq4n, if_pos (.inr (.inr (by rw [hN]; exact u8_ne h3)))])] at hT
          refine rg_q (.inl rfl) rfl rfl (by exact QW.qr (qw_pick_f rfl rfl)) ?_
          refine rg_nil ?_
          refine qg_then ?_
          refine cg_true rfl ?_
          refine cg_exit ?_
          refine qg_then_exit ?_
          refine qg_block_on rfl ?_
          refine qg_then_exit ?_
          refine qg_block_here ?_
          refine qg_then ?_
          refine cg_seq ?_
          refine cg_region ?_
          refine rg_q (.inl rfl) rfl rfl (by exact QW.qr (qw_move rfl)) ?_
          refine rg_q (.inl rfl) rfl rfl (by exact QW.qr (qw_move rfl)) ?_
          refine rg_q (.inl rfl) rfl rfl (by exact QW.qr (qw_move rfl)) ?_
          refine rg_q (.inl rfl) rfl rfl (by exact QW.qr (qw_assign rfl)) ?_
          refine rg_q (.inl rfl) rfl rfl (by exact QW.qr (qw_assign rfl)) ?_
          refine rg_q (.inl rfl) rfl rfl (by exact QW.qr (qw_assign rfl)) ?_
          refine rg_nil ?_
          refine qg_then ?_
          refine cg_ret ?_
          exact qg_end (.inl rfl) _ (.cons (.tmp rfl) (.cons (.tmp rfl) (.cons (.tmp rfl) (.nil)))) _ (List.Sublist.refl _) ⟨_, B, by rw [hT] <;> rfl, by rw [hT]; exact hown, rfl⟩
        · intro h3
          have h165 : q.getD (4 + N) 0 = 165 := u8_eq (b := 165) h3
          refine rg_q (.inl rfl) rfl rfl (by exact QW.qr (qw_pick_f rfl rfl)) ?_
          refine rg_nil ?_
          refine qg_then ?_
          refine cg_false rfl ?_
          refine cg_skip ?_
          refine qg_then ?_
          refine cg_seq ?_
          refine cg_draw follows (.op 0 false (.op 1 false (.op 2 false (.op 3 false (.op 4 false (.op 5 false (.op 6 false (.op 7 false (.op 8 false (.op 9 false (.op 10 false (.op 11 false (.op 12 false (.op 13 false .done)))))))))))))) _ (by kernel_rfl) (SubP.of (List.Sublist.refl _)) ?_
          refine dg_w rfl rfl (.inl rfl) rfl rfl (by exact qw_move rfl) ?_
          refine dg_w rfl rfl (.inl rfl) rfl rfl (by exact qw_move rfl) ?_
          refine dg_w rfl rfl (.inl rfl) rfl rfl (by exact qw_add_in rfl rfl (by unfold inK; omega)) ?_
          refine dg_w rfl rfl (.inl rfl) rfl rfl (by exact qw_indexAddr rfl rfl (by omega) (by omega)) ?_
          refine dg_r rfl rfl rfl (.inl rfl) rfl rfl (by exact qr_load1' rfl (by repeat (first | exact List.Mem.head _ | apply List.Mem.tail | apply List.mem_append_right | assumption)) (by rw [show o0 + ((a : Int) + 4).toNat * 1 = o0 + a + 4 from by omega]; exact hget 4 (by omega))) ?_
          refine dg_w rfl rfl (.inl rfl) rfl rfl (by exact qw_conv_in rfl (by unfold inK; omega)) ?_
          refine dg_w rfl rfl (.inl rfl) rfl rfl (by exact qw_move rfl) ?_
          refine dg_w rfl rfl (.inl rfl) rfl rfl (by exact qw_move rfl) ?_
          refine dg_w rfl rfl (.inl rfl) rfl rfl (by exact qw_add_in rfl rfl (by unfold inK; omega)) ?_
          refine dg_w rfl rfl (.inl rfl) rfl rfl (by exact qw_indexAddr rfl rfl (by omega) (by omega)) ?_
          refine dg_r rfl rfl rfl (.inl rfl) rfl rfl (by exact qr_load1' rfl (by repeat (first | exact List.Mem.head _ | apply List.Mem.tail | apply List.mem_append_right | assumption)) (by rw [show o0 + ((a : Int) + 5).toNat * 1 = o0 + a + 5 from by omega]; exact hget 5 (by omega))) ?_
          refine dg_w rfl rfl (.inl rfl) rfl rfl (by exact qw_conv_in rfl (by unfold inK; omega)) ?_
          refine dg_w rfl rfl (.inl rfl) rfl rfl (by exact qw_assign rfl) ?_
          refine dg_w rfl rfl (.inl rfl) rfl rfl (by exact qw_assign rfl) ?_
          refine dg_nil ?_
          refine qg_then ?_
          refine cg_seq ?_
          refine cg_seq ?_
          refine cg_region ?_
          refine rg_q (.inl rfl) rfl rfl (by exact QW.qr (qw_move rfl)) ?_
          refine rg_q (.inl rfl) rfl rfl (by exact QW.qr (qw_add_in rfl rfl (by unfold inK; omega))) ?_
          refine rg_q (.inl rfl) rfl rfl (by exact QW.qr (qw_move rfl)) ?_
          refine rg_split (.inl rfl) rfl rfl (by exact qc_gtr rfl rfl) ?_ ?_
          · intro h6
            rw [tellN_none (by rw [nextF, if_neg hq4n, if_neg (by rw [hN, h165]; rintro (h | h | h); omega; omega; exact h rfl), if_pos (by rw [hN]; omega)])] at hT
            refine rg_q (.inl rfl) rfl rfl (by exact QW.qr (qw_move rfl)) ?_
            refine rg_s (guard_mk rfl rfl rfl rfl) rfl rfl ?_
            refine rg_s (guard_mk rfl rfl rfl rfl) rfl rfl ?_
            refine rg_s (guard_mk rfl rfl rfl rfl) rfl rfl ?_
            refine rg_s (guard_mk rfl rfl rfl rfl) rfl rfl ?_
            refine rg_s (guard_mk rfl rfl rfl rfl) rfl rfl ?_
            refine rg_q (.inl rfl) rfl rfl (by exact QW.qr (qw_pick_t rfl rfl)) ?_
            refine rg_q (.inl rfl) rfl rfl (by exact QW.qr (qw_move rfl)) ?_
            refine rg_s (guard_mk rfl rfl rfl rfl) rfl rfl ?_
            refine rg_s (guard_mk rfl rfl rfl rfl) rfl rfl ?_
            refine rg_q (.inl rfl) rfl rfl (by exact QW.qr (qw_pick_t rfl rfl)) ?_
            refine rg_q (.inl rfl) rfl rfl (by exact QW.qr (qw_move rfl)) ?_
            refine rg_s (guard_mk rfl rfl rfl rfl) rfl rfl ?_
            refine rg_s (guard_mk rfl rfl rfl rfl) rfl rfl ?_
            refine rg_q (.inl rfl) rfl rfl (by exact QW.qr (qw_pick_t rfl rfl)) ?_
            refine rg_nil ?_
            refine qg_then ?_
            refine cg_true rfl ?_
            refine cg_exit ?_
            refine qg_then_exit ?_
            refine qg_block_on rfl ?_
            refine qg_then_exit ?_
            refine qg_block_here ?_
            refine qg_then ?_
            refine cg_seq ?_
            refine cg_region ?_
            refine rg_q (.inl rfl) rfl rfl (by exact QW.qr (qw_move rfl)) ?_
            refine rg_q (.inl rfl) rfl rfl (by exact QW.qr (qw_move rfl)) ?_
            refine rg_q (.inl rfl) rfl rfl (by exact QW.qr (qw_move rfl)) ?_
            refine rg_q (.inl rfl) rfl rfl (by exact QW.qr (qw_assign rfl)) ?_
            refine rg_q (.inl rfl) rfl rfl (by exact QW.qr (qw_assign rfl)) ?_
            refine rg_q (.inl rfl) rfl rfl (by exact QW.qr (qw_assign rfl)) ?_
            refine rg_nil ?_
            refine qg_then ?_
            refine cg_ret ?_
            exact qg_end (.inl rfl) _ (.cons (.tmp rfl) (.cons (.tmp rfl) (.cons (.tmp rfl) (.nil)))) _ (List.Sublist.refl _) ⟨_, B, by rw [hT] <;> rfl, by rw [hT]; exact hown, rfl⟩
          · intro h6
            rw [tellN_some (show nextF q = some (q.getD 4 0, (q.drop 6).take (q.getD 5 0).toNat, (q.drop (6 + (q.getD 5 0).toNat)).take (N - (2 + (q.getD 5 0).toNat)), q.drop (5 + N)) by rw [nextF, if_neg hq4n, if_neg (by rw [hN, h165]; rintro (h | h | h); omega; omega; exact h rfl), if_neg (by rw [hN]; omega), hN])] at hT
            refine rg_q (.inl rfl) rfl rfl (by exact QW.qr (qw_move rfl)) ?_
            refine rg_q (.inr (guard_mk rfl rfl rfl rfl)) rfl rfl (by exact QW.qr (qw_move rfl)) ?_
            refine rg_q (.inr (guard_mk rfl rfl rfl rfl)) rfl rfl (by exact QW.qr (qw_eql rfl rfl)) ?_
            refine rg_q (.inr (guard_mk rfl rfl rfl rfl)) rfl rfl (by exact QW.qr (qw_move rfl)) ?_
            refine rg_q (.inr (guard_mk rfl rfl rfl rfl)) rfl rfl (by exact QW.qr (qw_eql rfl rfl)) ?_
            refine rg_split (.inr (guard_mk rfl rfl rfl rfl)) rfl rfl (by exact qc_neq_bool rfl rfl) ?_ ?_
            · intro hf
              rw [if_pos hf] at hT
              refine rg_q (.inl rfl) rfl rfl (by exact QW.qr (qw_pick_f rfl rfl)) ?_
              refine rg_q (.inl rfl) rfl rfl (by exact QW.qr (qw_move rfl)) ?_
              refine rg_s (guard_mk rfl rfl rfl rfl) rfl rfl ?_
              refine rg_s (guard_mk rfl rfl rfl rfl) rfl rfl ?_
              refine rg_q (.inl rfl) rfl rfl (by exact QW.qr (qw_pick_t rfl rfl)) ?_
              refine rg_q (.inl rfl) rfl rfl (by exact QW.qr (qw_move rfl)) ?_
              refine rg_s (guard_mk rfl rfl rfl rfl) rfl rfl ?_
              refine rg_s (guard_mk rfl rfl rfl rfl) rfl rfl ?_
              refine rg_q (.inl rfl) rfl rfl (by exact QW.qr (qw_pick_t rfl rfl)) ?_
              refine rg_nil ?_
              refine qg_then ?_
              refine cg_true rfl ?_
              refine cg_exit ?_
              refine qg_then_exit ?_
              refine qg_block_on rfl ?_
              refine qg_then_exit ?_
              refine qg_block_here ?_
              refine qg_then ?_
              refine cg_seq ?_
              refine cg_region ?_
              refine rg_q (.inl rfl) rfl rfl (by exact QW.qr (qw_move rfl)) ?_
              refine rg_q (.inl rfl) rfl rfl (by exact QW.qr (qw_move rfl)) ?_
              refine rg_q (.inl rfl) rfl rfl (by exact QW.qr (qw_move rfl)) ?_
              refine rg_q (.inl rfl) rfl rfl (by exact QW.qr (qw_assign rfl)) ?_
              refine rg_q (.inl rfl) rfl rfl (by exact QW.qr (qw_assign rfl)) ?_
              refine rg_q (.inl rfl) rfl rfl (by exact QW.qr (qw_assign rfl)) ?_
              refine rg_nil ?_
              refine qg_then ?_
              refine cg_ret ?_
              exact qg_end (.inl rfl) _ (.cons (.tmp rfl) (.cons (.tmp rfl) (.cons (.tmp rfl) (.nil)))) _ (List.Sublist.refl _) ⟨_, B, by rw [hT] <;> rfl, by rw [hT]; exact hown, rfl⟩
            · intro hf
              rw [if_neg hf] at hT
              refine rg_q (.inl rfl) rfl rfl (by exact QW.qr (qw_pick_f rfl rfl)) ?_
              refine rg_q (.inl rfl) rfl rfl (by exact QW.qr (qw_move rfl)) ?_
              refine rg_q (.inr (guard_mk rfl rfl rfl rfl)) rfl rfl (by exact QW.qr (qw_move rfl)) ?_
              refine rg_split (.inr (guard_mk rfl rfl rfl rfl)) rfl rfl (by exact qc_lss rfl rfl) ?_ ?_
              · intro k0
                rw [if_neg (by omega), if_neg (by omega), if_neg (by omega), if_neg (by omega)] at hT
                refine rg_q (.inl rfl) rfl rfl (by exact QW.qr (qw_pick_f rfl rfl)) ?_
                refine rg_q (.inl rfl) rfl rfl (by exact QW.qr (qw_move rfl)) ?_
                refine rg_s (guard_mk rfl rfl rfl rfl) rfl rfl ?_
                refine rg_s (guard_mk rfl rfl rfl rfl) rfl rfl ?_
                refine rg_q (.inl rfl) rfl rfl (by exact QW.qr (qw_pick_t rfl rfl)) ?_
                refine rg_nil ?_
                refine qg_then ?_
                refine cg_true rfl ?_
                refine cg_exit ?_
                refine qg_then_exit ?_
                refine qg_block_on rfl ?_
                refine qg_then_exit ?_
                refine qg_block_here ?_
                refine qg_then ?_
                refine cg_seq ?_
                refine cg_region ?_
                refine rg_q (.inl rfl) rfl rfl (by exact QW.qr (qw_move rfl)) ?_
                refine rg_q (.inl rfl) rfl rfl (by exact QW.qr (qw_move rfl)) ?_
                refine rg_q (.inl rfl) rfl rfl (by exact QW.qr (qw_move rfl)) ?_
                refine rg_q (.inl rfl) rfl rfl (by exact QW.qr (qw_assign rfl)) ?_
                refine rg_q (.inl rfl) rfl rfl (by exact QW.qr (qw_assign rfl)) ?_
                refine rg_q (.inl rfl) rfl rfl (by exact QW.qr (qw_assign rfl)) ?_
                refine rg_nil ?_
                refine qg_then ?_
                refine cg_ret ?_
                exact qg_end (.inl rfl) _ (.cons (.tmp rfl) (.cons (.tmp rfl) (.cons (.tmp rfl) (.nil)))) _ (List.Sublist.refl _) ⟨_, B, by rw [hT] <;> rfl, by rw [hT]; exact hown, rfl⟩
              · intro k0
                refine rg_q (.inl rfl) rfl rfl (by exact QW.qr (qw_pick_f rfl rfl)) ?_
                refine rg_q (.inl rfl) rfl rfl (by exact QW.qr (qw_move rfl)) ?_
                refine rg_q (.inr (guard_mk rfl rfl rfl rfl)) rfl rfl (by exact QW.qr (qw_move rfl)) ?_
                refine rg_split (.inr (guard_mk rfl rfl rfl rfl)) rfl rfl (by exact qc_gtr rfl rfl) ?_ ?_
                · intro k5
                  rw [if_neg (by omega), if_neg (by omega), if_neg (by omega), if_neg (by omega)] at hT
                  refine rg_q (.inl rfl) rfl rfl (by exact QW.qr (qw_pick_f rfl rfl)) ?_
                  refine rg_nil ?_
                  refine qg_then ?_
                  refine cg_true rfl ?_
                  refine cg_exit ?_
                  refine qg_then_exit ?_
                  refine qg_block_on rfl ?_
                  refine qg_then_exit ?_
                  refine qg_block_here ?_
                  refine qg_then ?_
                  refine cg_seq ?_
                  refine cg_region ?_
                  refine rg_q (.inl rfl) rfl rfl (by exact QW.qr (qw_move rfl)) ?_
                  refine rg_q (.inl rfl) rfl rfl (by exact QW.qr (qw_move rfl)) ?_
                  refine rg_q (.inl rfl) rfl rfl (by exact QW.qr (qw_move rfl)) ?_
                  refine rg_q (.inl rfl) rfl rfl (by exact QW.qr (qw_assign rfl)) ?_
                  refine rg_q (.inl rfl) rfl rfl (by exact QW.qr (qw_assign rfl)) ?_
                  refine rg_q (.inl rfl) rfl rfl (by exact QW.qr (qw_assign rfl)) ?_
                  refine rg_nil ?_
                  refine qg_then ?_
                  refine cg_ret ?_
                  exact qg_end (.inl rfl) _ (.cons (.tmp rfl) (.cons (.tmp rfl) (.cons (.tmp rfl) (.nil)))) _ (List.Sublist.refl _) ⟨_, B, by rw [hT] <;> rfl, by rw [hT]; exact hown, rfl⟩
                · intro k5
                  have hc6 : ¬ cap = ((a : Int) + 6).toNat := by omega
                  have hc7 : ¬ cap = ((a : Int) + 6 + ((q.getD 5 0).toNat : Int)).toNat := by omega
                  have hsn := seg_take (enc := encB) (fun _ => rfl) (seg_drop (enc := encB) (fun _ => rfl) hseg 6) (q.getD 5 0).toNat
                  have hsv := seg_take (enc := encB) (fun _ => rfl) (seg_drop (enc := encB) (fun _ => rfl) hseg (6 + (q.getD 5 0).toNat)) (N - (2 + (q.getD 5 0).toNat))
                  have hnv : RdW L encB (.slice (some ⟨b0, o0 + ((a : Int) + 6).toNat * 1, none⟩) (((a : Int) + 6 + ((q.getD 5 0).toNat : Int)).toNat - ((a : Int) + 6).toNat) (cap - ((a : Int) + 6).toNat)) ((q.drop 6).take (q.getD 5 0).toNat) := by
                    rw [show o0 + ((a : Int) + 6).toNat * 1 = o0 + a + 6 from by omega]
                    refine (RdL.of_seg hm0 hsn ?_ ?_).w
                    · rw [List.length_take, List.length_drop]; omega
                    · omega
                  have hvv : RdW L encB (.slice (some ⟨b0, o0 + ((a : Int) + 6 + ((q.getD 5 0).toNat : Int)).toNat * 1, none⟩) (((a : Int) + 4 + (N : Int)).toNat - ((a : Int) + 6 + ((q.getD 5 0).toNat : Int)).toNat) (cap - ((a : Int) + 6 + ((q.getD 5 0).toNat : Int)).toNat)) ((q.drop (6 + (q.getD 5 0).toNat)).take (N - (2 + (q.getD 5 0).toNat))) := by
                    rw [show o0 + ((a : Int) + 6 + ((q.getD 5 0).toNat : Int)).toNat * 1 = o0 + a + (6 + (q.getD 5 0).toNat) from by omega]
                    refine (RdL.of_seg hm0 hsv ?_ ?_).w
                    · rw [List.length_take, List.length_drop]; omega
                    · omega
                  have hless : (bs.drop (a + 5 + N)).length < f := by rw [List.length_drop]; omega
                  have hnew : ∀ t', tell bs = tellN f false t' (q.drop (5 + N)) → tell bs = tellN f (decide (((c + 1 : Nat) : Int) = 0)) t' (bs.drop (a + 5 + N)) := fun t' h => by
                    rw [h, hq, List.drop_drop, decide_eq_false (by omega), show a + (5 + N) = a + 5 + N from by omega]
                  have hvl : ((q.drop (6 + (q.getD 5 0).toNat)).take (N - (2 + (q.getD 5 0).toNat))).length = N - (2 + (q.getD 5 0).toNat) := by rw [List.length_take, List.length_drop]; omega
                  refine rg_q (.inl rfl) rfl rfl (by exact QW.qr (qw_pick_f rfl rfl)) ?_
                  refine rg_nil ?_
                  refine qg_then ?_
                  refine cg_false rfl ?_
                  refine cg_skip ?_
                  refine qg_then ?_
                  refine cg_seq ?_
                  refine cg_draw follows (.op 0 false (.op 1 false (.op 2 false (.op 3 false (.op 4 false (.op 5 false (.op 6 false (.op 7 false (.op 8 false (.op 9 false (.op 10 false (.op 11 false (.op 12 false (.op 13 false (.op 14 false (.op 15 false (.op 16 false (.op 17 false (.op 18 false (.op 19 false (.op 20 false (.op 21 false .done)))))))))))))))))))))) _ (by kernel_rfl) (SubP.of (List.Sublist.refl _)) ?_
                  refine dg_w rfl rfl (.inl rfl) rfl rfl (by exact qw_move rfl) ?_
                  refine dg_w rfl rfl (.inl rfl) rfl rfl (by exact qw_move rfl) ?_
                  refine dg_w rfl rfl (.inl rfl) rfl rfl (by exact qw_add_in rfl rfl (by unfold inK; omega)) ?_
                  refine dg_w rfl rfl (.inl rfl) rfl rfl (by exact qw_move rfl) ?_
                  refine dg_w rfl rfl (.inl rfl) rfl rfl (by exact qw_add_in rfl rfl (by unfold inK; omega)) ?_
                  refine dg_w rfl rfl (.inl rfl) rfl rfl (by exact qw_move rfl) ?_
                  refine dg_w rfl rfl (.inl rfl) rfl rfl (by exact qw_add_in rfl rfl (by unfold inK; omega)) ?_
                  refine dg_w rfl rfl (.inl rfl) rfl rfl (by exact qw_slice_lohi rfl rfl rfl (by omega) (by omega) (by omega)) ?_
                  rw [if_neg hc6]
                  refine dg_r rfl rfl rfl (.inl rfl) rfl rfl (by exact qr_bytesToStr (e := 5) rfl (hnv.mono (fun q hq => mem_catF hq))) ?_
                  refine dg_w rfl rfl (.inl rfl) rfl rfl (by exact qw_move rfl) ?_
                  refine dg_w rfl rfl (.inl rfl) rfl rfl (by exact qw_move rfl) ?_
                  refine dg_w rfl rfl (.inl rfl) rfl rfl (by exact qw_add_in rfl rfl (by unfold inK; omega)) ?_
                  refine dg_w rfl rfl (.inl rfl) rfl rfl (by exact qw_move rfl) ?_
                  refine dg_w rfl rfl (.inl rfl) rfl rfl (by exact qw_add_in rfl rfl (by unfold inK; omega)) ?_
                  refine dg_w rfl rfl (.inl rfl) rfl rfl (by exact qw_move rfl) ?_
                  refine dg_w rfl rfl (.inl rfl) rfl rfl (by exact qw_add_in rfl rfl (by unfold inK; omega)) ?_
                  refine dg_w rfl rfl (.inl rfl) rfl rfl (by exact qw_move rfl) ?_
                  refine dg_w rfl rfl (.inl rfl) rfl rfl (by exact qw_add_in rfl rfl (by unfold inK; omega)) ?_
                  refine dg_w rfl rfl (.inl rfl) rfl rfl (by exact qw_slice_lohi rfl rfl rfl (by omega) (by omega) (by omega)) ?_
                  rw [if_neg hc7]
                  refine dg_r rfl rfl rfl (.inl rfl) rfl rfl (by exact qr_bytesToStr (e := 5) rfl (hvv.mono (fun q hq => mem_catF hq))) ?_
                  refine dg_w rfl rfl (.inl rfl) rfl rfl (by exact qw_assign rfl) ?_
                  refine dg_w rfl rfl (.inl rfl) rfl rfl (by exact qw_assign rfl) ?_
                  refine dg_nil ?_
                  refine qg_then ?_
                  refine cg_seq ?_
                  refine cg_seq ?_
                  refine cg_region ?_
                  refine rg_q (.inl rfl) rfl rfl (by exact QW.qr (qw_move rfl)) ?_
                  refine rg_split (.inl rfl) rfl rfl (by exact qc_eql rfl rfl) ?_ ?_
                  · intro k1
                    rw [if_pos k1] at hT
                    refine rg_nil ?_
                    refine qg_then ?_
                    refine cg_true rfl ?_
                    refine cg_seq ?_
                    refine cg_seq ?_
                    refine cg_region ?_
                    refine rg_q (.inl rfl) rfl rfl (by exact QW.qr (qw_move rfl)) ?_
                    refine rg_q (.inl rfl) rfl rfl (by exact QW.qr (qw_len_enc (t := 9) (.cons rfl .nil) rfl)) ?_
                    refine rg_split (.inl rfl) rfl rfl (by exact qc_neq rfl rfl) ?_ ?_
                    · intro h5
                      rw [if_pos h5] at hT
                      refine rg_nil ?_
                      refine qg_then ?_
                      refine cg_true rfl ?_
                      refine cg_exit ?_
                      refine qg_then_exit ?_
                      refine qg_then_exit ?_
                      refine qg_block_on rfl ?_
                      refine qg_then_exit ?_
                      refine qg_block_here ?_
                      refine qg_then ?_
                      refine cg_seq ?_
                      refine cg_region ?_
                      refine rg_q (.inl rfl) rfl rfl (by exact QW.qr (qw_move rfl)) ?_
                      refine rg_q (.inl rfl) rfl rfl (by exact QW.qr (qw_move rfl)) ?_
                      refine rg_q (.inl rfl) rfl rfl (by exact QW.qr (qw_move rfl)) ?_
                      refine rg_q (.inl rfl) rfl rfl (by exact QW.qr (qw_assign rfl)) ?_
                      refine rg_q (.inl rfl) rfl rfl (by exact QW.qr (qw_assign rfl)) ?_
                      refine rg_q (.inl rfl) rfl rfl (by exact QW.qr (qw_assign rfl)) ?_
                      refine rg_nil ?_
                      refine qg_then ?_
                      refine cg_ret ?_
                      exact qg_end (.inl rfl) _ (.cons (.tmp rfl) (.cons (.tmp rfl) (.cons (.tmp rfl) (.nil)))) _ (List.Sublist.refl _) ⟨_, B, by rw [hT] <;> rfl, by rw [hT]; exact hown, rfl⟩
                    · intro h5
                      rw [if_neg h5] at hT
                      have hv4 : ((q.drop (6 + (q.getD 5 0).toNat)).take (N - (2 + (q.getD 5 0).toNat))).length = 4 := by omega
                      have hV4 := beN4 ((q.drop (6 + (q.getD 5 0).toNat)).take (N - (2 + (q.getD 5 0).toNat))) (by omega)
                      rw [List.take_of_length_le (i := 4) (by omega)] at hV4
                      generalize hval : ((q.drop (6 + (q.getD 5 0).toNat)).take (N - (2 + (q.getD 5 0).toNat))) = val at hT hv4 hV4 ⊢
                      have d0 : (val.getD 0 0).toNat < 256 := UInt8.toNat_lt _
                      have d1 : (val.getD 1 0).toNat < 256 := UInt8.toNat_lt _
                      have d2 : (val.getD 2 0).toNat < 256 := UInt8.toNat_lt _
                      have d3 : (val.getD 3 0).toNat < 256 := UInt8.toNat_lt _
                      refine rg_nil ?_
                      refine qg_then ?_
                      refine cg_false rfl ?_
                      refine cg_skip ?_
                      refine qg_then ?_
                      refine cg_draw follows (.op 0 false (.op 1 false (.op 2 false (.op 3 false (.op 4 false (.op 5 false (.op 6 false (.op 7 false (.op 8 false (.op 9 false (.op 10 false (.op 11 false (.op 12 false (.op 13 false (.op 14 false (.op 15 false (.op 16 false (.op 17 false (.op 18 false .done))))))))))))))))))) _ (by kernel_rfl) (SubP.of (List.Sublist.refl _)) ?_
                      refine dg_w rfl rfl (.inl rfl) rfl rfl (by exact qw_move rfl) ?_
                      refine dg_w rfl rfl (.inl rfl) rfl rfl (by exact qw_index_str (c := val.getD 0 0) rfl rfl (by decide) (str_get (by omega))) ?_
                      refine dg_w rfl rfl (.inl rfl) rfl rfl (by exact qw_conv_in rfl (by unfold inK; omega)) ?_
                      refine dg_w rfl rfl (.inl rfl) rfl rfl (by exact qw_mul_in rfl rfl (by unfold inK; omega)) ?_
                      refine dg_w rfl rfl (.inl rfl) rfl rfl (by exact qw_move rfl) ?_
                      refine dg_w rfl rfl (.inl rfl) rfl rfl (by exact qw_index_str (c := val.getD 1 0) rfl rfl (by decide) (str_get (by omega))) ?_
                      refine dg_w rfl rfl (.inl rfl) rfl rfl (by exact qw_conv_in rfl (by unfold inK; omega)) ?_
                      refine dg_w rfl rfl (.inl rfl) rfl rfl (by exact qw_mul_in rfl rfl (by unfold inK; omega)) ?_
                      refine dg_w rfl rfl (.inl rfl) rfl rfl (by exact qw_add_in rfl rfl (by unfold inK; omega)) ?_
                      refine dg_w rfl rfl (.inl rfl) rfl rfl (by exact qw_move rfl) ?_
                      refine dg_w rfl rfl (.inl rfl) rfl rfl (by exact qw_index_str (c := val.getD 2 0) rfl rfl (by decide) (str_get (by omega))) ?_
                      refine dg_w rfl rfl (.inl rfl) rfl rfl (by exact qw_conv_in rfl (by unfold inK; omega)) ?_
                      refine dg_w rfl rfl (.inl rfl) rfl rfl (by exact qw_mul_in rfl rfl (by unfold inK; omega)) ?_
                      refine dg_w rfl rfl (.inl rfl) rfl rfl (by exact qw_add_in rfl rfl (by unfold inK; omega)) ?_
                      refine dg_w rfl rfl (.inl rfl) rfl rfl (by exact qw_move rfl) ?_
                      refine dg_w rfl rfl (.inl rfl) rfl rfl (by exact qw_index_str (c := val.getD 3 0) rfl rfl (by decide) (str_get (by omega))) ?_
                      refine dg_w rfl rfl (.inl rfl) rfl rfl (by exact qw_conv_in rfl (by unfold inK; omega)) ?_
                      refine dg_w rfl rfl (.inl rfl) rfl rfl (by exact qw_val (qw_add_in rfl rfl (by unfold inK; omega)) (congrArg (Value.int .u32) hV4)) ?_
                      refine dg_w rfl rfl (.inl rfl) rfl rfl (by exact qw_assign rfl) ?_
                      refine dg_nil ?_
                      refine qg_then ?_
                      refine cg_seq ?_
                      refine cg_seq ?_
                      refine cg_region ?_
                      refine rg_q (.inl rfl) rfl rfl (by exact QW.qr (qw_move rfl)) ?_
                      refine rg_q (.inl rfl) rfl rfl (by exact QW.qr (qw_eql_f rfl rfl (by omega))) ?_
                      refine rg_nil ?_
                      refine qg_then ?_
                      refine cg_false rfl ?_
                      refine cg_skip ?_
                      refine qg_then ?_
                      refine cg_seq ?_
                      refine cg_seq ?_
                      refine cg_region ?_
                      refine rg_q (.inl rfl) rfl rfl (by exact QW.qr (qw_move rfl)) ?_
                      refine rg_q (.inl rfl) rfl rfl (by exact QW.qr (qw_eql_f rfl rfl (by omega))) ?_
                      refine rg_nil ?_
                      refine qg_then ?_
                      refine cg_false rfl ?_
                      refine cg_skip ?_
                      refine qg_then ?_
                      refine cg_seq ?_
                      refine cg_seq ?_
                      refine cg_region ?_
                      refine rg_q (.inl rfl) rfl rfl (by exact QW.qr (qw_move rfl)) ?_
                      refine rg_q (.inl rfl) rfl rfl (by exact QW.qr (qw_eql_f rfl rfl (by omega))) ?_
                      refine rg_nil ?_
                      refine qg_then ?_
                      refine cg_false rfl ?_
                      refine cg_skip ?_
                      refine qg_then ?_
                      refine cg_seq ?_
                      refine cg_region ?_
                      refine rg_q (.inl rfl) rfl rfl (by exact QW.qr (qw_move rfl)) ?_
                      refine rg_q (.inl rfl) rfl rfl (by exact QW.qr (qw_add_in rfl rfl (by unfold inK; omega))) ?_
                      refine rg_q (.inl rfl) rfl rfl (by exact QW.qr (qw_move rfl)) ?_
                      refine rg_q (.inl rfl) rfl rfl (by exact QW.qr (qw_add_in rfl rfl (by unfold inK; omega))) ?_
                      refine rg_q (.inl rfl) rfl rfl (by exact QW.qr (qw_assign rfl)) ?_
                      refine rg_nil ?_
                      refine qg_then ?_
                      refine cg_region ?_
                      refine rg_q (.inl rfl) rfl rfl (by exact QW.qr (qw_move rfl)) ?_
                      refine rg_q (.inl rfl) rfl rfl (by exact QW.qr (qw_add_in rfl rfl (by unfold inK; omega))) ?_
                      refine rg_q (.inl rfl) rfl rfl (by exact QW.qr (qw_assign rfl)) ?_
                      refine rg_nil ?_
                      refine qg_block ?_
                      exact qg_round_sp _ _ _ ⟨a + 5 + N, c + 1, f, ⟨beN val, t.shut, t.has⟩, _, B, by omega, by omega, by show t.has.length ≤ _; omega, hless, hnew _ hT, hnd, hown, rfl, rfl, rfl⟩ (by repeat (first | exact Sub.nil | refine Sub.cons rfl ?_ | refine Sub.cons (congrArg (fun z => some (Value.int IntKind.i64 z)) (by omega)) ?_)) (SubP.of (List.Sublist.refl _)) (by omega)
                  · intro k1
                    rw [if_neg k1] at hT
                    refine rg_nil ?_
                    refine qg_then ?_
                    refine cg_false rfl ?_
                    refine cg_skip ?_
                    refine qg_then ?_
                    refine cg_seq ?_
                    refine cg_seq ?_
                    refine cg_region ?_
                    refine rg_q (.inl rfl) rfl rfl (by exact QW.qr (qw_move rfl)) ?_
                    refine rg_split (.inl rfl) rfl rfl (by exact qc_eql rfl rfl) ?_ ?_
                    · intro k2
                      rw [if_pos k2] at hT
                      refine rg_nil ?_
                      refine qg_then ?_
                      refine cg_true rfl ?_
                      refine cg_region ?_
                      refine rg_q (.inl rfl) rfl rfl (by exact QW.qr (qw_move rfl)) ?_
                      refine rg_q (.inl rfl) rfl rfl (by exact QW.qr (qw_move rfl)) ?_
                      refine rg_q (.inl rfl) rfl rfl (by exact QW.qr (qw_move rfl)) ?_
                      refine rg_q (.inl rfl) rfl rfl (by exact QW.qr (qw_build (.cons rfl (.cons rfl (.nil))) rfl (.cons rfl (by first | exact CellsOf.agg | exact CellsOf.one rfl) (by repeat (first | exact SetSeg.done | apply SetSeg.take | apply SetSeg.skip)) (by rfl) (by rfl) (.cons rfl (by first | exact CellsOf.agg | exact CellsOf.one rfl) (by repeat (first | exact SetSeg.done | apply SetSeg.take | apply SetSeg.skip)) (by rfl) (by rfl) (.nil))))) ?_
                      refine rg_e (.inl rfl) rfl rfl (by exact ev_call0 rfl (.cons rfl (.cons rfl (.nil))) (rputE_ca (_, _) (srt t.has) _ O _ ((hown.rd (fun _ => rfl) (by decide)).mono (fun q hq => mem_cat (s := B) (by repeat (first | exact List.Mem.head _ | apply List.Mem.tail)) hq)) (by omega))) ?_
                      rintro ov2 _ ⟨B2, hown2, rfl⟩
                      rw [srt_put _ hnd] at hown2
                      refine rg_q (.inl rfl) rfl rfl (by exact QW.qr (qw_assign rfl)) ?_
                      refine rg_nil ?_
                      refine qg_then ?_
                      refine cg_seq ?_
                      refine cg_seq ?_
                      refine cg_region ?_
                      refine rg_q (.inl rfl) rfl rfl (by exact QW.qr (qw_move rfl)) ?_
                      refine rg_q (.inl rfl) rfl rfl (by exact QW.qr (qw_eql_f rfl rfl (by omega))) ?_
                      refine rg_nil ?_
                      refine qg_then ?_
                      refine cg_false rfl ?_
                      refine cg_skip ?_
                      refine qg_then ?_
                      refine cg_seq ?_
                      refine cg_seq ?_
                      refine cg_region ?_
                      refine rg_q (.inl rfl) rfl rfl (by exact QW.qr (qw_move rfl)) ?_
                      refine rg_q (.inl rfl) rfl rfl (by exact QW.qr (qw_eql_f rfl rfl (by omega))) ?_
                      refine rg_nil ?_
                      refine qg_then ?_
                      refine cg_false rfl ?_
                      refine cg_skip ?_
                      refine qg_then ?_
                      refine cg_seq ?_
                      refine cg_region ?_
                      refine rg_q (.inl rfl) rfl rfl (by exact QW.qr (qw_move rfl)) ?_
                      refine rg_q (.inl rfl) rfl rfl (by exact QW.qr (qw_add_in rfl rfl (by unfold inK; omega))) ?_
                      refine rg_q (.inl rfl) rfl rfl (by exact QW.qr (qw_move rfl)) ?_
                      refine rg_q (.inl rfl) rfl rfl (by exact QW.qr (qw_add_in rfl rfl (by unfold inK; omega))) ?_
                      refine rg_q (.inl rfl) rfl rfl (by exact QW.qr (qw_assign rfl)) ?_
                      refine rg_nil ?_
                      refine qg_then ?_
                      refine cg_region ?_
                      refine rg_q (.inl rfl) rfl rfl (by exact QW.qr (qw_move rfl)) ?_
                      refine rg_q (.inl rfl) rfl rfl (by exact QW.qr (qw_add_in rfl rfl (by unfold inK; omega))) ?_
                      refine rg_q (.inl rfl) rfl rfl (by exact QW.qr (qw_assign rfl)) ?_
                      refine rg_nil ?_
                      refine qg_block ?_
                      exact qg_round_sp _ _ _ ⟨a + 5 + N, c + 1, f, ⟨t.life, t.shut, putG t.has _ _⟩, _, B2, by omega, by omega, Nat.le_trans (putG_length _ _ _) (by omega), hless, hnew _ hT, putG_nd hnd, hown2, rfl, rfl, rfl⟩ (by repeat (first | exact Sub.nil | refine Sub.cons rfl ?_ | refine Sub.cons (congrArg (fun z => some (Value.int IntKind.i64 z)) (by omega)) ?_)) (cat_sub (ls' := [B2]) (ls := [B2, B]) (by repeat (first | exact SubM.nil | refine SubM.cons (by repeat (first | exact Ins.here | apply Ins.there)) ?_))) (by omega)
                    · intro k2
                      rw [if_neg k2] at hT
                      refine rg_nil ?_
                      refine qg_then ?_
                      refine cg_false rfl ?_
                      refine cg_skip ?_
                      refine qg_then ?_
                      refine cg_seq ?_
                      refine cg_seq ?_
                      refine cg_region ?_
                      refine rg_q (.inl rfl) rfl rfl (by exact QW.qr (qw_move rfl)) ?_
                      refine rg_split (.inl rfl) rfl rfl (by exact qc_eql rfl rfl) ?_ ?_
                      · intro k3
                        rw [if_pos k3] at hT
                        refine rg_nil ?_
                        refine qg_then ?_
                        refine cg_true rfl ?_
                        refine cg_region ?_
                        refine rg_q (.inl rfl) rfl rfl (by exact QW.qr (qw_move rfl)) ?_
                        refine rg_q (.inl rfl) rfl rfl (by exact QW.qr (qw_move rfl)) ?_
                        refine rg_e (.inl rfl) rfl rfl (by exact ev_call0 rfl (.cons rfl (.cons rfl (.nil))) (rdropE_ca _ (srt t.has) _ O _ ((hown.rd (fun _ => rfl) (by decide)).mono (fun q hq => mem_cat (s := B) (by repeat (first | exact List.Mem.head _ | apply List.Mem.tail)) hq)) (by omega))) ?_
                        rintro ov2 _ ⟨B2, hown2, rfl⟩
                        rw [srt_del _ hnd] at hown2
                        refine rg_q (.inl rfl) rfl rfl (by exact QW.qr (qw_assign rfl)) ?_
                        refine rg_nil ?_
                        refine qg_then ?_
                        refine cg_seq ?_
                        refine cg_seq ?_
                        refine cg_region ?_
                        refine rg_q (.inl rfl) rfl rfl (by exact QW.qr (qw_move rfl)) ?_
                        refine rg_q (.inl rfl) rfl rfl (by exact QW.qr (qw_eql_f rfl rfl (by omega))) ?_
                        refine rg_nil ?_
                        refine qg_then ?_
                        refine cg_false rfl ?_
                        refine cg_skip ?_
                        refine qg_then ?_
                        refine cg_seq ?_
                        refine cg_region ?_
                        refine rg_q (.inl rfl) rfl rfl (by exact QW.qr (qw_move rfl)) ?_
                        refine rg_q (.inl rfl) rfl rfl (by exact QW.qr (qw_add_in rfl rfl (by unfold inK; omega))) ?_
                        refine rg_q (.inl rfl) rfl rfl (by exact QW.qr (qw_move rfl)) ?_
                        refine rg_q (.inl rfl) rfl rfl (by exact QW.qr (qw_add_in rfl rfl (by unfold inK; omega))) ?_
                        refine rg_q (.inl rfl) rfl rfl (by exact QW.qr (qw_assign rfl)) ?_
                        refine rg_nil ?_
                        refine qg_then ?_
                        refine cg_region ?_
                        refine rg_q (.inl rfl) rfl rfl (by exact QW.qr (qw_move rfl)) ?_
                        refine rg_q (.inl rfl) rfl rfl (by exact QW.qr (qw_add_in rfl rfl (by unfold inK; omega))) ?_
                        refine rg_q (.inl rfl) rfl rfl (by exact QW.qr (qw_assign rfl)) ?_
                        refine rg_nil ?_
                        refine qg_block ?_
                        exact qg_round_sp _ _ _ ⟨a + 5 + N, c + 1, f, ⟨t.life, t.shut, delG t.has _⟩, _, B2, by omega, by omega, Nat.le_trans (delG_length _ _) (by omega), hless, hnew _ hT, delG_nd hnd, hown2, rfl, rfl, rfl⟩ (by repeat (first | exact Sub.nil | refine Sub.cons rfl ?_ | refine Sub.cons (congrArg (fun z => some (Value.int IntKind.i64 z)) (by omega)) ?_)) (cat_sub (ls' := [B2]) (ls := [B2, B]) (by repeat (first | exact SubM.nil | refine SubM.cons (by repeat (first | exact Ins.here | apply Ins.there)) ?_))) (by omega)
                      · intro k3
                        rw [if_neg k3, if_pos (by omega)] at hT
                        refine rg_nil ?_
                        refine qg_then ?_
                        refine cg_false rfl ?_
                        refine cg_skip ?_
                        refine qg_then ?_
                        refine cg_seq ?_
                        refine cg_seq ?_
                        refine cg_region ?_
                        refine rg_q (.inl rfl) rfl rfl (by exact QW.qr (qw_move rfl)) ?_
                        refine rg_q (.inl rfl) rfl rfl (by exact QW.qr (qw_eql_t rfl rfl (by omega))) ?_
                        refine rg_nil ?_
                        refine qg_then ?_
                        refine cg_true rfl ?_
                        refine cg_region ?_
                        refine rg_q (.inl rfl) rfl rfl (by exact QW.qr (qw_assign rfl)) ?_
                        refine rg_nil ?_
                        refine qg_then ?_
                        refine cg_seq ?_
                        refine cg_region ?_
                        refine rg_q (.inl rfl) rfl rfl (by exact QW.qr (qw_move rfl)) ?_
                        refine rg_q (.inl rfl) rfl rfl (by exact QW.qr (qw_add_in rfl rfl (by unfold inK; omega))) ?_
                        refine rg_q (.inl rfl) rfl rfl (by exact QW.qr (qw_move rfl)) ?_
                        refine rg_q (.inl rfl) rfl rfl (by exact QW.qr (qw_add_in rfl rfl (by unfold inK; omega))) ?_
                        refine rg_q (.inl rfl) rfl rfl (by exact QW.qr (qw_assign rfl)) ?_
                        refine rg_nil ?_
                        refine qg_then ?_
                        refine cg_region ?_
                        refine rg_q (.inl rfl) rfl rfl (by exact QW.qr (qw_move rfl)) ?_
                        refine rg_q (.inl rfl) rfl rfl (by exact QW.qr (qw_add_in rfl rfl (by unfold inK; omega))) ?_
                        refine rg_q (.inl rfl) rfl rfl (by exact QW.qr (qw_assign rfl)) ?_
                        refine rg_nil ?_
                        refine qg_block ?_
                        exact qg_round_sp _ _ _ ⟨a + 5 + N, c + 1, f, ⟨t.life, true, t.has⟩, _, B, by omega, by omega, by show t.has.length ≤ _; omega, hless, hnew _ hT, hnd, hown, rfl, rfl, rfl⟩ (by repeat (first | exact Sub.nil | refine Sub.cons rfl ?_ | refine Sub.cons (congrArg (fun z => some (Value.int IntKind.i64 z)) (by omega)) ?_)) (SubP.of (List.Sublist.refl _)) (by omega)
  · intro h4
    rw [tellN_none (by rw [nextF, if_pos (by omega)])] at hT
    refine rg_nil ?_
    refine qg_then ?_
    refine cg_false rfl ?_
    refine cg_exit ?_
    refine qg_then_exit ?_
    refine qg_then_exit ?_
    refine qg_block_here ?_
    refine qg_then ?_
    refine cg_seq ?_
    refine cg_region ?_
    refine rg_q (.inl rfl) rfl rfl (by exact QW.qr (qw_move rfl)) ?_
    refine rg_q (.inl rfl) rfl rfl (by exact QW.qr (qw_move rfl)) ?_
    refine rg_q (.inl rfl) rfl rfl (by exact QW.qr (qw_move rfl)) ?_
    refine rg_q (.inl rfl) rfl rfl (by exact QW.qr (qw_assign rfl)) ?_
    refine rg_q (.inl rfl) rfl rfl (by exact QW.qr (qw_assign rfl)) ?_
    refine rg_q (.inl rfl) rfl rfl (by exact QW.qr (qw_assign rfl)) ?_
    refine rg_nil ?_
    refine qg_then ?_
    refine cg_ret ?_
    exact qg_end (.inl rfl) _ (.cons (.tmp rfl) (.cons (.tmp rfl) (.cons (.tmp rfl) (.nil)))) _ (List.Sublist.refl _) ⟨_, B, by rw [hT] <;> rfl, by rw [hT]; exact hown, rfl⟩

end Go.Proofs.Ytcbbogaanebefaa