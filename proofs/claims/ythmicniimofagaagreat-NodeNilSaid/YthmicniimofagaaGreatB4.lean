/-
  THE WALK of logbook's next: the first record of bytes. Condition: sizes.
-/
import Derived.Test.YthmicniimofagaaGreatB3
namespace Go.Proofs.YthmicniimofagaaGreat
open Fw
open Go.Proofs (encStr)
set_option linter.unusedVariables false
set_option maxRecDepth 100000
set_option maxHeartbeats 1000000

/-- logbook.next: kind, name, value, rest. -/
def nextF (p : Bytes) : Option (UInt8 × Bytes × Bytes × Bytes) :=
  if p.length < 4 then none
  else if beN (p.take 4) < 2 ∨ p.length < beN (p.take 4) + 5 ∨ p.getD (4 + beN (p.take 4)) 0 ≠ 165 then none
  else if beN (p.take 4) < 2 + (p.getD 5 0).toNat then none
  else some (p.getD 4 0, (p.drop 6).take (p.getD 5 0).toNat, (p.drop (6 + (p.getD 5 0).toNat)).take (beN (p.take 4) - (2 + (p.getD 5 0).toNat)), p.drop (5 + beN (p.take 4)))
theorem RdL.of_seg {A : Array Value} {b o : Nat} {t : TypeId} {fz : Nat × Nat} {L : List Blk} {xs : Bytes} {len cap : Nat} (hm : (b, Obj.cells A t fz) ∈ L) (hs : Seg A o (xs.flatMap encB)) (hl : xs.length = len) (hc : len ≤ cap) : RdL L encB 1 (.slice (some ⟨b, o, none⟩) len cap) xs := by
  subst hl
  exact ⟨_, _, rfl, flat_length (enc := encB) (k := 1) (fun _ => rfl) _, hc, ⟨fun q h => (by cases h; rfl), fun h => (by cases h)⟩, fun _ => ⟨b, o, _, _, _, rfl, hm, hs⟩⟩
theorem RdL.of_nil {b o : Nat} {L : List Blk} {cap : Nat} : RdL L encB 1 (.slice (some ⟨b, o, none⟩) 0 cap) [] :=
  ⟨_, _, rfl, rfl, Nat.zero_le _, ⟨fun q h => (by cases h; rfl), fun h => (by cases h)⟩, fun h => absurd rfl h⟩
theorem u8_ne {a b : UInt8} (h : (a.toNat : Int) ≠ (b.toNat : Int)) : a ≠ b := fun e => h (by rw [e])
theorem u8_eq {a b : UInt8} (h : ¬ (a.toNat : Int) ≠ (b.toNat : Int)) : a = b := UInt8.toNat_inj.1 (by omega)
theorem getD_get {p : Bytes} {i : Nat} (h : i < p.length) : p[i]? = some (p.getD i 0) := by
  rw [List.getD_eq_getElem?_getD, List.getElem?_eq_getElem h]; rfl

theorem next_ca (p : Bytes) (pv : Value) (hsz : p.length ≤ 1000000) (O : Out) (L0 L : List Blk) (hL0 : ∀ q, q ∈ L0 → q ∈ L) (hp : RdL L0 encB 1 pv p) :
    CA Tryz.prog 189 [pv] O L fun v L' => L' = L ∧ match nextF p with
      | none => v = .tuple #[.int .u8 0, encStr [], .slice none 0 0, .slice none 0 0, .bool false]
      | some r => ∃ vv rv, v = .tuple #[.int .u8 r.1.toNat, encStr r.2.1, vv, rv, .bool true] ∧ RdL L0 encB 1 vv r.2.2.1 ∧ RdL L0 encB 1 rv r.2.2.2 := by
  obtain ⟨pp, cap, rfl, _, hcap, hspp, hR⟩ := id hp
  refine ca_enter Tryz.func189 rfl rfl ?_
  rw [Tryz.ntmps189]
  simp only [envOf]
  refine cg_seq ?_
  refine cg_region ?_
  refine rg_q (.inl rfl) rfl rfl (by exact QW.qr (qw_assign rfl)) ?_
  refine rg_q (.inl rfl) rfl rfl (by exact QW.qr (qw_assign rfl)) ?_
  refine rg_q (.inl rfl) rfl rfl (by exact QW.qr (qw_assign rfl)) ?_
  refine rg_q (.inl rfl) rfl rfl (by exact QW.qr (qw_assign rfl)) ?_
  refine rg_q (.inl rfl) rfl rfl (by exact QW.qr (qw_assign rfl)) ?_
  refine rg_nil ?_
  refine qg_then ?_
  refine cg_seq ?_
  refine cg_seq ?_
  refine cg_region ?_
  refine rg_q (.inl rfl) rfl rfl (by exact QW.qr (qw_move rfl)) ?_
  refine rg_q (.inl rfl) rfl rfl (by exact QW.qr (qw_len_slice (t := 39) (.cons rfl (.nil)) rfl)) ?_
  refine rg_split (.inl rfl) rfl rfl (by exact qc_lss rfl rfl) ?_ ?_
  · intro h0
    have hfin : nextF p = none := by rw [nextF, if_pos (by omega)]
    refine rg_nil ?_
    refine qg_then ?_
    refine cg_true rfl ?_
    refine cg_seq ?_
    refine cg_region ?_
    refine rg_q (.inl rfl) rfl rfl (by exact QW.qr (qw_assign rfl)) ?_
    refine rg_q (.inl rfl) rfl rfl (by exact QW.qr (qw_assign rfl)) ?_
    refine rg_q (.inl rfl) rfl rfl (by exact QW.qr (qw_assign rfl)) ?_
    refine rg_q (.inl rfl) rfl rfl (by exact QW.qr (qw_assign rfl)) ?_
    refine rg_q (.inl rfl) rfl rfl (by exact QW.qr (qw_assign rfl)) ?_
    refine rg_nil ?_
    refine qg_then ?_
    refine cg_ret ?_
    refine qg_then_ret ?_
    exact qg_end (.inl rfl) _ (.cons (.tmp rfl) (.cons (.tmp rfl) (.cons (.tmp rfl) (.cons (.tmp rfl) (.cons (.tmp rfl) (.nil)))))) L (by repeat (first | exact List.Sublist.refl _ | exact List.nil_sublist _ | exact List.sublist_append_right _ _ | apply List.Sublist.cons_cons | apply List.Sublist.cons | refine List.Sublist.trans ?_ (List.sublist_append_right _ _))) ⟨rfl, by rw [hfin]; exact rfl⟩
  · intro h0
    have hn0 : ¬ p.length < 4 := by omega
    obtain ⟨b0, o0, A0, t0, fz0, rfl, hm0, hseg⟩ := hR (by omega)
    have hp4 : RdL L encB 1 (.slice (some ⟨b0, o0, none⟩) (4 : Int).toNat cap) (p.take 4) := RdL.of_seg (hL0 _ hm0) (seg_take (fun _ => rfl) hseg 4) (by rw [List.length_take]; omega) (by omega)
    have hlt := beN_lt 4 (p.take 4) (by rw [List.length_take]; omega)
    have hget : ∀ i : Nat, i < p.length → A0[o0 + i]? = some (.int .u8 ((p.getD i 0).toNat : Int)) := fun i hi => seg_b hseg (getD_get hi) rfl
    refine rg_nil ?_
    refine qg_then ?_
    refine cg_false rfl ?_
    refine cg_skip ?_
    refine qg_then ?_
    refine cg_seq ?_
    refine cg_region ?_
    refine rg_q (.inl rfl) rfl rfl (by exact QW.qr (qw_move rfl)) ?_
    refine rg_q (.inl rfl) rfl rfl (by exact QW.qr (qw_slice_hi hspp.1 rfl rfl (by omega) (by omega))) ?_
    refine rg_e (.inl rfl) rfl rfl (by exact ev_call0 rfl (.cons rfl (.nil)) (of_ca (p.take 4) _ (by rw [List.length_take]; omega) O _ hp4)) ?_
    rintro _ _ ⟨bI, sv, B, rfl, ho, rfl⟩
    refine rg_e (.inl rfl) rfl rfl (by exact ev_call0 rfl (.cons rfl (.nil)) (ofFour sv (p.take 4) B ho (by rw [List.length_take]; omega) (by rw [List.length_take]; omega) bI O _)) ?_
    rintro _ _ ⟨rfl, sv2, rfl⟩
    rw [show (p.take 4).take 4 = p.take 4 from by rw [List.take_take]; rfl]
    generalize hn : beN (p.take 4) = n at hlt ⊢
    refine rg_q (.inl rfl) rfl rfl (by exact QW.qr (qw_conv_in rfl (by unfold inK; omega))) ?_
    refine rg_q (.inl rfl) rfl rfl (by exact QW.qr (qw_assign rfl)) ?_
    refine rg_nil ?_
    refine qg_then ?_
    refine cg_seq ?_
    refine cg_seq ?_
    refine cg_region ?_
    refine rg_q (.inl rfl) rfl rfl (by exact QW.qr (qw_move rfl)) ?_
    refine rg_split (.inl rfl) rfl rfl (by exact qc_lss rfl rfl) ?_ ?_
    · intro h1
      have hfin : nextF p = none := by rw [nextF, if_neg hn0, if_pos (.inl (by rw [hn]; omega))]
      refine rg_q (.inl rfl) rfl rfl (by exact QW.qr (qw_move rfl)) ?_
      refine rg_s (guard_mk rfl rfl rfl rfl) rfl rfl ?_
      refine rg_s (guard_mk rfl rfl rfl rfl) rfl rfl ?_
      refine rg_s (guard_mk rfl rfl rfl rfl) rfl rfl ?_
      refine rg_s (guard_mk rfl rfl rfl rfl) rfl rfl ?_
      refine rg_s (guard_mk rfl rfl rfl rfl) rfl rfl ?_
      refine rg_s (guard_mk rfl rfl rfl rfl) rfl rfl ?_
      refine rg_q (.inl rfl) rfl rfl (by exact QW.qr (qw_pick_t rfl rfl)) ?_
      refine rg_q (.inl rfl) rfl rfl (by exact QW.qr (qw_move rfl)) ?_
      refine rg_s (guard_mk rfl rfl rfl rfl) rfl rfl ?_
      refine rg_s (guard_mk rfl rfl rfl rfl) rfl rfl ?_
      refine rg_s (guard_mk rfl rfl rfl rfl) rfl rfl ?_
      refine rg_s (guard_mk rfl rfl rfl rfl) rfl rfl ?_
      refine rg_s (guard_mk rfl rfl rfl rfl) rfl rfl ?_
      refine rg_s (guard_mk rfl rfl rfl rfl) rfl rfl ?_
      refine rg_q (.inl rfl) rfl rfl (by exact QW.qr (qw_pick_t rfl rfl)) ?_
      refine rg_nil ?_
      refine qg_then ?_
      refine cg_true rfl ?_
      refine cg_seq ?_
      refine cg_region ?_
      refine rg_q (.inl rfl) rfl rfl (by exact QW.qr (qw_assign rfl)) ?_
      refine rg_q (.inl rfl) rfl rfl (by exact QW.qr (qw_assign rfl)) ?_
      refine rg_q (.inl rfl) rfl rfl (by exact QW.qr (qw_assign rfl)) ?_
      refine rg_q (.inl rfl) rfl rfl (by exact QW.qr (qw_assign rfl)) ?_
      refine rg_q (.inl rfl) rfl rfl (by exact QW.qr (qw_assign rfl)) ?_
      refine rg_nil ?_
      refine qg_then ?_
      refine cg_ret ?_
      refine qg_then_ret ?_
      exact qg_end (.inl rfl) _ (.cons (.tmp rfl) (.cons (.tmp rfl) (.cons (.tmp rfl) (.cons (.tmp rfl) (.cons (.tmp rfl) (.nil)))))) L (by repeat (first | exact List.Sublist.refl _ | exact List.nil_sublist _ | exact List.sublist_append_right _ _ | apply List.Sublist.cons_cons | apply List.Sublist.cons | refine List.Sublist.trans ?_ (List.sublist_append_right _ _))) ⟨rfl, by rw [hfin]; exact rfl⟩
    · intro h1
      refine rg_q (.inl rfl) rfl rfl (by exact QW.qr (qw_move rfl)) ?_
      refine rg_q (.inr (guard_mk rfl rfl rfl rfl)) rfl rfl (by exact QW.qr (qw_move rfl)) ?_
      refine rg_q (.inr (guard_mk rfl rfl rfl rfl)) rfl rfl (by exact QW.qr (qw_add_in rfl rfl (by unfold inK; omega))) ?_
      refine rg_q (.inr (guard_mk rfl rfl rfl rfl)) rfl rfl (by exact QW.qr (qw_move rfl)) ?_
      refine rg_q (.inr (guard_mk rfl rfl rfl rfl)) rfl rfl (by exact QW.qr (qw_len_slice (t := 39) (.cons rfl (.nil)) rfl)) ?_
      refine rg_q (.inr (guard_mk rfl rfl rfl rfl)) rfl rfl (by exact QW.qr (qw_conv_in rfl (by unfold inK; omega))) ?_
      refine rg_split (.inr (guard_mk rfl rfl rfl rfl)) rfl rfl (by exact qc_gtr rfl rfl) ?_ ?_
      · intro h2
        have hfin : nextF p = none := by rw [nextF, if_neg hn0, if_pos (.inr (.inl (by rw [hn]; omega)))]
        refine rg_q (.inl rfl) rfl rfl (by exact QW.qr (qw_pick_f rfl rfl)) ?_
        refine rg_q (.inl rfl) rfl rfl (by exact QW.qr (qw_move rfl)) ?_
        refine rg_s (guard_mk rfl rfl rfl rfl) rfl rfl ?_
        refine rg_s (guard_mk rfl rfl rfl rfl) rfl rfl ?_
        refine rg_s (guard_mk rfl rfl rfl rfl) rfl rfl ?_
        refine rg_s (guard_mk rfl rfl rfl rfl) rfl rfl ?_
        refine rg_s (guard_mk rfl rfl rfl rfl) rfl rfl ?_
        refine rg_s (guard_mk rfl rfl rfl rfl) rfl rfl ?_
        refine rg_q (.inl rfl) rfl rfl (by exact QW.qr (qw_pick_t rfl rfl)) ?_
        refine rg_nil ?_
        refine qg_then ?_
        refine cg_true rfl ?_
        refine cg_seq ?_
        refine cg_region ?_
        refine rg_q (.inl rfl) rfl rfl (by exact QW.qr (qw_assign rfl)) ?_
        refine rg_q (.inl rfl) rfl rfl (by exact QW.qr (qw_assign rfl)) ?_
        refine rg_q (.inl rfl) rfl rfl (by exact QW.qr (qw_assign rfl)) ?_
        refine rg_q (.inl rfl) rfl rfl (by exact QW.qr (qw_assign rfl)) ?_
        refine rg_q (.inl rfl) rfl rfl (by exact QW.qr (qw_assign rfl)) ?_
        refine rg_nil ?_
        refine qg_then ?_
        refine cg_ret ?_
        refine qg_then_ret ?_
        exact qg_end (.inl rfl) _ (.cons (.tmp rfl) (.cons (.tmp rfl) (.cons (.tmp rfl) (.cons (.tmp rfl) (.cons (.tmp rfl) (.nil)))))) L (by repeat (first | exact List.Sublist.refl _ | exact List.nil_sublist _ | exact List.sublist_append_right _ _ | apply List.Sublist.cons_cons | apply List.Sublist.cons | refine List.Sublist.trans ?_ (List.sublist_append_right _ _))) ⟨rfl, by rw [hfin]; exact rfl⟩
      · intro h2
        refine rg_q (.inl rfl) rfl rfl (by exact QW.qr (qw_pick_f rfl rfl)) ?_
        refine rg_q (.inl rfl) rfl rfl (by exact QW.qr (qw_move rfl)) ?_
        refine rg_q (.inr (guard_mk rfl rfl rfl rfl)) rfl rfl (by exact QW.qr (qw_move rfl)) ?_
        refine rg_q (.inr (guard_mk rfl rfl rfl rfl)) rfl rfl (by exact QW.qr (qw_move rfl)) ?_
        refine rg_q (.inr (guard_mk rfl rfl rfl rfl)) rfl rfl (by exact QW.qr (qw_add_in rfl rfl (by unfold inK; omega))) ?_
        refine rg_q (.inr (guard_mk rfl rfl rfl rfl)) rfl rfl (by exact QW.qr (qw_indexAddr rfl rfl (by omega) (by omega))) ?_
        refine rg_q (.inr (guard_mk rfl rfl rfl rfl)) rfl rfl (by exact qr_load1' rfl (by repeat (first | exact (hL0 _ hm0) | apply List.mem_append_right | apply List.mem_cons_of_mem)) (by rw [show o0 + (4 + (n : Int)).toNat * 1 = o0 + (4 + n) from by omega]; exact hget (4 + n) (by omega))) ?_
        refine rg_split (.inr (guard_mk rfl rfl rfl rfl)) rfl rfl (by exact qc_neq rfl rfl) ?_ ?_
        · intro h3
          have hfin : nextF p = none := by rw [nextF, if_neg hn0, if_pos (.inr (.inr (by rw [hn]; exact u8_ne h3)))]
          refine rg_q (.inl rfl) rfl rfl (by exact QW.qr (qw_pick_f rfl rfl)) ?_
          refine rg_nil ?_
          refine qg_then ?_
          refine cg_true rfl ?_
          refine cg_seq ?_
          refine cg_region ?_
          refine rg_q (.inl rfl) rfl rfl (by exact QW.qr (qw_assign rfl)) ?_
          refine rg_q (.inl rfl) rfl rfl (by exact QW.qr (qw_assign rfl)) ?_
          refine rg_q (.inl rfl) rfl rfl (by exact QW.qr (qw_assign rfl)) ?_
          refine rg_q (.inl rfl) rfl rfl (by exact QW.qr (qw_assign rfl)) ?_
          refine rg_q (.inl rfl) rfl rfl (by exact QW.qr (qw_assign rfl)) ?_
          refine rg_nil ?_
          refine qg_then ?_
          refine cg_ret ?_
          refine qg_then_ret ?_
          exact qg_end (.inl rfl) _ (.cons (.tmp rfl) (.cons (.tmp rfl) (.cons (.tmp rfl) (.cons (.tmp rfl) (.cons (.tmp rfl) (.nil)))))) L (by repeat (first | exact List.Sublist.refl _ | exact List.nil_sublist _ | exact List.sublist_append_right _ _ | apply List.Sublist.cons_cons | apply List.Sublist.cons | refine List.Sublist.trans ?_ (List.sublist_append_right _ _))) ⟨rfl, by rw [hfin]; exact rfl⟩
        · intro h3
          have h165 : p.getD (4 + n) 0 = 165 := u8_eq (b := 165) h3
          have hc4 : ¬ cap = (4 : Int).toNat := by show ¬ cap = 4; omega
          generalize hlg : (p.getD 5 0).toNat = long
          have hlg2 : long < 256 := by rw [← hlg]; exact UInt8.toNat_lt _
          refine rg_q (.inl rfl) rfl rfl (by exact QW.qr (qw_pick_f rfl rfl)) ?_
          refine rg_nil ?_
          refine qg_then ?_
          refine cg_false rfl ?_
          refine cg_skip ?_
          refine qg_then ?_
          refine cg_seq ?_
          refine cg_region ?_
          refine rg_q (.inl rfl) rfl rfl (by exact QW.qr (qw_move rfl)) ?_
          refine rg_q (.inl rfl) rfl rfl (by exact QW.qr (qw_move rfl)) ?_
          refine rg_q (.inl rfl) rfl rfl (by exact QW.qr (qw_add_in rfl rfl (by unfold inK; omega))) ?_
          refine rg_q (.inl rfl) rfl rfl (by exact QW.qr (qw_slice_lohi rfl rfl rfl (by omega) (by omega) (by omega))) ?_
          rw [if_neg hc4]
          refine rg_q (.inl rfl) rfl rfl (by exact QW.qr (qw_assign rfl)) ?_
          refine rg_nil ?_
          refine qg_then ?_
          refine cg_seq ?_
          refine cg_region ?_
          refine rg_q (.inl rfl) rfl rfl (by exact QW.qr (qw_move rfl)) ?_
          refine rg_q (.inl rfl) rfl rfl (by exact QW.qr (qw_indexAddr rfl rfl (by omega) (by omega))) ?_
          refine rg_q (.inl rfl) rfl rfl (by exact qr_load1' rfl (by repeat (first | exact (hL0 _ hm0) | apply List.mem_append_right | apply List.mem_cons_of_mem)) (by rw [show o0 + (4 : Int).toNat * 1 + (1 : Int).toNat * 1 = o0 + 5 from rfl]; exact hget 5 (by omega))) ?_
          rw [hlg]
          refine rg_q (.inl rfl) rfl rfl (by exact QW.qr (qw_conv_in rfl (by unfold inK; omega))) ?_
          refine rg_q (.inl rfl) rfl rfl (by exact QW.qr (qw_assign rfl)) ?_
          refine rg_nil ?_
          refine qg_then ?_
          refine cg_seq ?_
          refine cg_seq ?_
          refine cg_region ?_
          refine rg_q (.inl rfl) rfl rfl (by exact QW.qr (qw_move rfl)) ?_
          refine rg_q (.inl rfl) rfl rfl (by exact QW.qr (qw_add_in rfl rfl (by unfold inK; omega))) ?_
          refine rg_q (.inl rfl) rfl rfl (by exact QW.qr (qw_move rfl)) ?_
          refine rg_q (.inl rfl) rfl rfl (by exact QW.qr (qw_len_slice (t := 39) (.cons rfl (.nil)) rfl)) ?_
          refine rg_split (.inl rfl) rfl rfl (by exact qc_gtr rfl rfl) ?_ ?_
          · intro h4
            have hfin : nextF p = none := by rw [nextF, if_neg hn0, if_neg (by rw [hn, h165]; rintro (h | h | h); omega; omega; exact h rfl), if_pos (by rw [hn, hlg]; omega)]
            refine rg_nil ?_
            refine qg_then ?_
            refine cg_true rfl ?_
            refine cg_seq ?_
            refine cg_region ?_
            refine rg_q (.inl rfl) rfl rfl (by exact QW.qr (qw_assign rfl)) ?_
            refine rg_q (.inl rfl) rfl rfl (by exact QW.qr (qw_assign rfl)) ?_
            refine rg_q (.inl rfl) rfl rfl (by exact QW.qr (qw_assign rfl)) ?_
            refine rg_q (.inl rfl) rfl rfl (by exact QW.qr (qw_assign rfl)) ?_
            refine rg_q (.inl rfl) rfl rfl (by exact QW.qr (qw_assign rfl)) ?_
            refine rg_nil ?_
            refine qg_then ?_
            refine cg_ret ?_
            refine qg_then_ret ?_
            exact qg_end (.inl rfl) _ (.cons (.tmp rfl) (.cons (.tmp rfl) (.cons (.tmp rfl) (.cons (.tmp rfl) (.cons (.tmp rfl) (.nil)))))) L (by repeat (first | exact List.Sublist.refl _ | exact List.nil_sublist _ | exact List.sublist_append_right _ _ | apply List.Sublist.cons_cons | apply List.Sublist.cons | refine List.Sublist.trans ?_ (List.sublist_append_right _ _))) ⟨rfl, by rw [hfin]; exact rfl⟩
          · intro h4
            have hfin : nextF p = some (p.getD 4 0, (p.drop 6).take long, (p.drop (6 + long)).take (n - (2 + long)), p.drop (5 + n)) := by rw [nextF, if_neg hn0, if_neg (by rw [hn, h165]; rintro (h | h | h); omega; omega; exact h rfl), if_neg (by rw [hn, hlg]; omega), hn, hlg]
            have hc2 : ¬ cap - (4 : Int).toNat = (2 : Int).toNat := by show ¬ cap - 4 = 2; omega
            have hc3 : ¬ cap - (4 : Int).toNat = (2 + (long : Int)).toNat := by show ¬ cap - 4 = (2 + (long : Int)).toNat; omega
            have hs6 := seg_drop (enc := encB) (fun _ => rfl) hseg 6
            have hsn := seg_take (enc := encB) (fun _ => rfl) hs6 long
            have hsv := seg_take (enc := encB) (fun _ => rfl) (seg_drop (enc := encB) (fun _ => rfl) hseg (6 + long)) (n - (2 + long))
            have hsr := seg_drop (enc := encB) (fun _ => rfl) hseg (5 + n)
            have hrv : RdL L0 encB 1 (.slice (some (if cap = (5 + (n : Int)).toNat then ⟨b0, o0, none⟩ else ⟨b0, o0 + (5 + (n : Int)).toNat * 1, none⟩)) (p.length - (5 + (n : Int)).toNat) (cap - (5 + (n : Int)).toNat)) (p.drop (5 + n)) := by
              have e1 : (5 + (n : Int)).toNat = 5 + n := by omega
              rw [e1]
              split
              · have : p.drop (5 + n) = [] := List.drop_eq_nil_of_le (by omega)
                rw [this, show p.length - (5 + n) = 0 from by omega]
                exact RdL.of_nil
              · rw [Nat.mul_one]
                exact RdL.of_seg hm0 hsr (by rw [List.length_drop]) (by omega)
            have hvv : RdL L0 encB 1 (.slice (some ⟨b0, o0 + (4 : Int).toNat * 1 + (2 + (long : Int)).toNat * 1, none⟩) ((4 + (n : Int)).toNat - (4 : Int).toNat - (2 + (long : Int)).toNat) (cap - (4 : Int).toNat - (2 + (long : Int)).toNat)) ((p.drop (6 + long)).take (n - (2 + long))) := by
              have e1 : o0 + (4 : Int).toNat * 1 + (2 + (long : Int)).toNat * 1 = o0 + (6 + long) := by show o0 + 4 * 1 + (2 + (long : Int)).toNat * 1 = _; omega
              rw [e1]
              refine RdL.of_seg hm0 hsv ?_ ?_
              · rw [List.length_take, List.length_drop]; show _ = (4 + (n : Int)).toNat - 4 - (2 + (long : Int)).toNat; omega
              · show (4 + (n : Int)).toNat - 4 - (2 + (long : Int)).toNat ≤ cap - 4 - (2 + (long : Int)).toNat; omega
            have hnv : RdW L encB (.slice (some ⟨b0, o0 + (4 : Int).toNat * 1 + (2 : Int).toNat * 1, none⟩) ((2 + (long : Int)).toNat - (2 : Int).toNat) (cap - (4 : Int).toNat - (2 : Int).toNat)) ((p.drop 6).take long) := by
              refine (RdL.of_seg (hL0 _ hm0) hsn ?_ ?_).w
              · rw [List.length_take, List.length_drop]; show _ = (2 + (long : Int)).toNat - 2; omega
              · show (2 + (long : Int)).toNat - 2 ≤ cap - 4 - 2; omega
            refine rg_nil ?_
            refine qg_then ?_
            refine cg_false rfl ?_
            refine cg_skip ?_
            refine qg_then ?_
            refine cg_seq ?_
            refine cg_draw follows (.op 0 false (.op 1 false (.op 2 false (.op 3 false (.op 4 false (.op 5 false (.op 6 false (.op 7 false (.op 8 false (.op 9 false (.op 10 false (.op 11 false (.op 12 false (.op 13 false (.op 14 false (.op 15 false (.op 16 false (.op 17 false (.op 18 false (.op 19 false (.op 20 false .done))))))))))))))))))))) _ (by kernel_rfl) (SubP.of (List.Sublist.refl _)) ?_
            refine dg_w rfl rfl (.inl rfl) rfl rfl (by exact qw_move rfl) ?_
            refine dg_w rfl rfl (.inl rfl) rfl rfl (by exact qw_indexAddr rfl rfl (by omega) (by omega)) ?_
            refine dg_r rfl rfl rfl (.inl rfl) rfl rfl (by exact qr_load1' rfl (by repeat (first | exact (hL0 _ hm0) | apply List.mem_append_right | apply List.mem_cons_of_mem)) (by rw [show o0 + (4 : Int).toNat * 1 + (0 : Int).toNat * 1 = o0 + 4 from rfl]; exact hget 4 (by omega))) ?_
            refine dg_w rfl rfl (.inl rfl) rfl rfl (by exact qw_move rfl) ?_
            refine dg_w rfl rfl (.inl rfl) rfl rfl (by exact qw_move rfl) ?_
            refine dg_w rfl rfl (.inl rfl) rfl rfl (by exact qw_add_in rfl rfl (by unfold inK; omega)) ?_
            refine dg_w rfl rfl (.inl rfl) rfl rfl (by exact qw_slice_lohi rfl rfl rfl (by omega) (by omega) (by omega)) ?_
            rw [if_neg hc2]
            refine dg_r rfl rfl rfl (.inl rfl) rfl rfl (by exact qr_bytesToStr (e := 5) rfl (hnv.mono (fun q hq => (by repeat (first | exact hq | apply List.mem_append_right | apply List.mem_cons_of_mem))))) ?_
            refine dg_w rfl rfl (.inl rfl) rfl rfl (by exact qw_move rfl) ?_
            refine dg_w rfl rfl (.inl rfl) rfl rfl (by exact qw_move rfl) ?_
            refine dg_w rfl rfl (.inl rfl) rfl rfl (by exact qw_add_in rfl rfl (by unfold inK; omega)) ?_
            refine dg_w rfl rfl (.inl rfl) rfl rfl (by exact qw_slice_lo rfl rfl (by omega) (by omega)) ?_
            rw [if_neg hc3]
            refine dg_w rfl rfl (.inl rfl) rfl rfl (by exact qw_move rfl) ?_
            refine dg_w rfl rfl (.inl rfl) rfl rfl (by exact qw_move rfl) ?_
            refine dg_w rfl rfl (.inl rfl) rfl rfl (by exact qw_add_in rfl rfl (by unfold inK; omega)) ?_
            refine dg_w rfl rfl (.inl rfl) rfl rfl (by exact qw_slice_lo rfl rfl (by omega) (by omega)) ?_
            refine dg_w rfl rfl (.inl rfl) rfl rfl (by exact qw_assign rfl) ?_
            refine dg_w rfl rfl (.inl rfl) rfl rfl (by exact qw_assign rfl) ?_
            refine dg_w rfl rfl (.inl rfl) rfl rfl (by exact qw_assign rfl) ?_
            refine dg_w rfl rfl (.inl rfl) rfl rfl (by exact qw_assign rfl) ?_
            refine dg_w rfl rfl (.inl rfl) rfl rfl (by exact qw_assign rfl) ?_
            refine dg_nil ?_
            refine qg_then ?_
            refine cg_ret ?_
            exact qg_end (.inl rfl) _ (.cons (.tmp rfl) (.cons (.tmp rfl) (.cons (.tmp rfl) (.cons (.tmp rfl) (.cons (.tmp rfl) (.nil)))))) L (by repeat (first | exact List.Sublist.refl _ | exact List.nil_sublist _ | exact List.sublist_append_right _ _ | apply List.Sublist.cons_cons | apply List.Sublist.cons | refine List.Sublist.trans ?_ (List.sublist_append_right _ _))) ⟨rfl, by rw [hfin]; exact ⟨_, _, rfl, hvv, hrv⟩⟩

end Go.Proofs.YthmicniimofagaaGreat