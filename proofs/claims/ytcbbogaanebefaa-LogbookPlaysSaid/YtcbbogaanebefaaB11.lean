/-
  THE WALK of slab's Crash; append of zeros. Conditions: sizes.
-/
import Derived.Test.YtcbbogaanebefaaB10
namespace Go.Proofs.Ytcbbogaanebefaa
open Fw
open Go.Proofs (encStr)
set_option linter.unusedVariables false
set_option linter.unusedSimpArgs false
set_option maxRecDepth 100000
set_option maxHeartbeats 1000000

namespace Fw
variable {P : Program} {n : Nat} {E : Env} {O : Out} {L : List Blk} {dst : Option Tmp} {T ty : TypeId} {pos : String} {after : Array Edge} {g : Option (Nat × Bool)}
def zeroStr (n : Nat) : ByteArray := ⟨(List.replicate n (0 : UInt8)).toArray⟩
theorem zeroStr_size (n : Nat) : (zeroStr n).size = n := by
  show (List.replicate n (0 : UInt8)).toArray.size = n
  simp
theorem zero_cells (n : Nat) : Builtin.zeroCells #[Value.int .u8 0] n = ((zeroStr n).extract 0 n).data.map fun b => Value.int .u8 b.toNat := by
  have h : (zeroStr n).extract 0 n = zeroStr n := by
    have := zeroStr_size n
    apply ByteArray.ext
    simp [zeroStr]
  rw [h]
  apply Array.ext'
  simp [Builtin.zeroCells, zeroStr]
  apply List.ext_getElem?
  intro i
  by_cases hi : i < n <;> simp [hi, Nat.mod_one, List.getElem?_replicate]
theorem zero_append {T2 T3 e eby m len cap : Nat} {at_ : Array TypeId} {p : Option Addr} {k k' : IntKind} [ht : TSl P T e 1 eby] [hz : TZero P e (.int .u8 0)] [h2 : TUn P T2 (.int k)] [h3 : TUn P T3 .string]
    (h0 : at_[0]? = some T) (h1 : at_[1]? = some T2) (hm : m ≤ 1000000) (hby : eby ≤ 1000000) (hlen : len + m ≤ 1000000) (w : World) :
    (Builtin.append_ at_ ty #[.slice p len cap, .int k' (m : Int)]).run P w = (Builtin.append_ #[T, T3] ty #[.slice p len cap, .string (zeroStr m)]).run P w := by
  obtain ⟨i, hu, hi, hsz, hb⟩ := ht.get
  have hti : ∀ w, (typeInfo e).run P w = .ok i w := fun w => by simp [typeInfo, hi]
  have hwr : IntKind.wrap .i64 (m : Int) = m := wrap_in (by unfold inK; omega)
  have hbb : ¬ ((m : Int) * (eby : Int) > 2 ^ 48) := by
    have : m * eby ≤ 1000000 * 1000000 := Nat.mul_le_mul hm hby
    have h5 : (m : Int) * (eby : Int) = ((m * eby : Nat) : Int) := by simp
    omega
  have hzn : ¬ ((m : Int) < 0) := by omega
  have happ : ∀ w, (if m * 1 = 0 then Result.ok #[] w else ((zeroValue e).run P w).andThen fun a w' => Result.ok (Builtin.zeroCells a.cells m) w') = Result.ok (((zeroStr m).extract 0 m).data.map fun b => Value.int .u8 b.toNat) w := fun w => by
    rw [← zero_cells]
    split
    · have : m = 0 := by omega
      subst this; simp [Builtin.zeroCells]
    · rw [run_zero (P := P) (T := e)]; rfl
  by_cases hfit : len + m ≤ cap
  · unfold Builtin.append_
    simp only [h0, h1, List.getElem?_toArray, List.getElem?_cons_zero, List.getElem?_cons_succ, Sem.run_bind, run_underlying hu, run_underlying h2.ok, run_underlying h3.ok, Result.andThen_ok, run_sizeOf' hi, hsz, Sem.run_pure, if_true, if_false, Bool.false_eq_true, Bool.not_false, Bool.not_true, asInt, asIntOf, hti, hwr, hzn, hbb, hb, Int.toNat_natCast, Builtin.lenOf, zeroStr_size, hfit, Builtin.firstCells, happ, Sem.run_ite]
  · have himax : ∀ q : Prop, ¬ (((len + m : Nat) : Int) > IntKind.i64.max ∧ q) := fun q h => by
      have : IntKind.i64.max = 9223372036854775807 := by rfl
      have := h.1
      omega
    have hlim : ¬ (Builtin.nextslicecap (len + m) cap * eby > 2 ^ 48) := by
      have hnext := nextcap_le (len + m) cap (by omega)
      have : Builtin.nextslicecap (len + m) cap * eby ≤ (2 * 1000000 + 400) * 1000000 := Nat.mul_le_mul (by omega) hby
      omega
    unfold Builtin.append_
    simp only [h0, h1, List.getElem?_toArray, List.getElem?_cons_zero, List.getElem?_cons_succ, Sem.run_bind, run_underlying hu, run_underlying h2.ok, run_underlying h3.ok, Result.andThen_ok, run_sizeOf' hi, hsz, Sem.run_pure, if_true, if_false, Bool.false_eq_true, Bool.not_false, Bool.not_true, asInt, asIntOf, hti, hwr, hzn, hbb, hb, Int.toNat_natCast, Builtin.lenOf, zeroStr_size, hfit, himax, hlim, happ, Sem.run_ite, Builtin.firstCells]
theorem ev_appendZ {T2 e eby m : Nat} (T3 : TypeId) {at_ : Array TypeId} {B R : List Blk} {sv : Value} {xs : Bytes} {k k' : IntKind} {ar : List Operand} [ht : TSl P T e 1 eby] [hz : TZero P e (.int .u8 0)] [h2 : TUn P T2 (.int k)] [h3 : TUn P T3 .string] [TNoInt P T3]
    (ha : EvAll E ar [sv, .int k' (m : Int)]) (h0 : at_[0]? = some T) (h1 : at_[1]? = some T2) (hs : OwnL e encB 1 sv xs B) (hp : (B ++ R).Perm L) (hsz : xs.length + m ≤ 1000000) (hby : Nat.ble eby 1000000 = true) :
    EV P ⟨dst, .call { callee := .builtin .append, args := ar.toArray, argTypes := at_ }, ty, pos, after, g⟩ n E O L fun u L' => ∃ B', OwnL e encB 1 u (xs ++ List.replicate m 0) B' ∧ L' = B' ++ R := by
  obtain ⟨x, y, rfl, hx, hy⟩ : ∃ x y, ar = [x, y] ∧ ev E x = some sv ∧ ev E y = some (.int k' (m : Int)) := by
    cases ha with
    | cons hx t => cases t with
      | cons hy t2 => cases t2; exact ⟨_, _, rfl, hx, hy⟩
  have hby' : eby ≤ 1000000 := by simpa using hby
  have ha2 : EvAll E [x, Operand.const (.string (zeroStr m))] [sv, .string (zeroStr m)] := .cons hx (.cons rfl .nil)
  have hev := ev_appendL (P := P) (n := n) (O := O) (L := L) (dst := dst) (ty := ty) (pos := pos) (after := after) (g := g) (at_ := #[T, T3]) (T := T) (T2 := T3) (ys := List.replicate m 0) ha2 rfl rfl hs hp (by
    have h := str_src (R := R) (s := zeroStr m)
    have e1 : (zeroStr m).data.toList = List.replicate m 0 := by simp [zeroStr]
    rw [e1] at h
    exact h) (fun _ => rfl) encB_one (by simpa using hsz) rfl rfl rfl hby
  intro a w hf hh K Q hk
  have h := hev a w hf hh K Q hk
  obtain ⟨pp, cc, rfl, _⟩ := id (hs.rd (fun _ => rfl) (by decide))
  have heq : (execOp a.eval ⟨dst, .call { callee := .builtin .append, args := [x, y].toArray, argTypes := at_ }, ty, pos, after, g⟩).run P w = (execOp a.eval ⟨dst, .call { callee := .builtin .append, args := [x, Operand.const (.string (zeroStr m))].toArray, argTypes := #[T, T3] }, ty, pos, after, g⟩).run P w := by
    have hz := zero_append (P := P) (T := T) (T2 := T2) (T3 := T3) (e := e) (ty := ty) (at_ := at_) (m := m) (k := k) (k' := k') (len := xs.length) (cap := cc) (p := pp) h0 h1 (by omega) hby' hsz w
    have hc : a.eval (Operand.const (.string (zeroStr m))) = .string (zeroStr m) := rfl
    simp [execOp, resolve, invoke, builtin, hf.ev hx, hf.ev hy, hc, hz]
  unfold Oper.wp at h ⊢
  rw [heq]
  unfold Oper.upon at h ⊢
  exact h
end Fw


theorem rdl_takeB {L : List Blk} {p : Option Addr} {cap i : Nat} {xs : Bytes} (h : RdL L encB 1 (.slice p xs.length cap) xs) (hi : i ≤ xs.length) : RdL L encB 1 (.slice p i cap) (xs.take i) := by
  obtain ⟨p', cap', he, h1, h2, h3, hR⟩ := h
  cases he
  have hl : (xs.take i).length = i := by rw [List.length_take]; omega
  refine ⟨p, cap, by rw [hl], flat_length (enc := encB) (k := 1) (fun _ => rfl) _, by omega, h3, fun h0 => ?_⟩
  obtain ⟨b, o, A, t, fz, h4, h5, h6⟩ := hR (by omega)
  exact ⟨b, o, A, t, fz, h4, h5, seg_take (fun _ => rfl) h6 i⟩
def keepN (n : Int) (m : Nat) : Nat := (max 0 (min n m)).toNat
theorem keepN_le (n : Int) (m : Nat) : keepN n m ≤ m := by unfold keepN; omega
def crashS (s : Slab) (keep zeros : Int) : Slab :=
  ⟨s.sure ++ s.loose.take (keepN keep s.loose.length) ++ List.replicate (keepN zeros (s.loose.length - keepN keep s.loose.length)) 0, [], s.steps, -1, false⟩

theorem crash_ca (b : Nat) (s : Slab) (Bk : List Blk) (keep zeros : Int) (O : Out) (L : List Blk) (hs : SlabAt b s Bk) (hsz : s.sure.length + s.loose.length ≤ 1000000) :
    CA Try.prog 21 [PT b, I keep, I zeros] O (Bk ++ L) fun v L' => v = I 0 ∧ ∃ Bk2, L' = Bk2 ++ L ∧ SlabAt b (crashS s keep zeros) Bk2 := by
  obtain ⟨sv, lv, Bs, Bl, hos, hol, rfl⟩ := hs
  show CA _ _ _ O (cat [_] L) _
  rw [slab_open]
  obtain ⟨ps, cs, rfl, hqs⟩ := id (hos.rd (fun _ => rfl) (by decide))
  have hrl := hol.rd (fun _ => rfl) (by decide)
  obtain ⟨pl, cl, rfl, hql⟩ := id hrl
  have hkn := keepN_le keep s.loose.length
  have hzn := keepN_le zeros (s.loose.length - keepN keep s.loose.length)
  unfold PT
  refine ca_enter Try.func21 rfl rfl ?_
  rw [Try.ntmps21]
  simp only [envOf]
  refine cg_seq ?_
  refine cg_region ?_
  refine rg_q (.inl rfl) rfl rfl (by exact QW.qr (qw_assign rfl)) ?_
  refine rg_nil ?_
  refine qg_then ?_
  refine cg_seq ?_
  refine cg_seq ?_
  refine cg_region ?_
  refine rg_q (.inl rfl) rfl rfl (by exact QW.qr (qw_move rfl)) ?_
  refine rg_q (.inl rfl) rfl rfl (by exact QW.qr (qw_eql_ptr (e := 67) rfl rfl)) ?_
  refine rg_nil ?_
  refine qg_then ?_
  refine cg_false rfl ?_
  refine cg_skip ?_
  refine qg_then ?_
  refine cg_seq ?_
  unfold slabBlk
  refine cg_region ?_
  refine rg_q (.inl rfl) rfl rfl (by exact QW.qr (qw_move rfl)) ?_
  refine rg_q (.inl rfl) rfl rfl (by exact QW.qr (qw_move rfl)) ?_
  refine rg_q (.inl rfl) rfl rfl (by exact QW.qr (qw_nilCheck rfl)) ?_
  refine rg_q (.inl rfl) rfl rfl (by exact QW.qr (qw_fieldAddr rfl)) ?_
  refine rg_q (.inl rfl) rfl rfl (by exact qr_load1 rfl (by repeat (first | exact List.Mem.head _ | apply List.Mem.tail | apply List.mem_append_right | assumption)) rfl) ?_
  refine rg_q (.inl rfl) rfl rfl (by exact QW.qr (qw_len_slice (t := 36) (.cons rfl (.nil)) rfl)) ?_
  refine rg_q (.inl rfl) rfl rfl (by exact QW.qr (qw_min (.cons rfl (.cons rfl .nil)))) ?_
  refine rg_q (.inl rfl) rfl rfl (by exact QW.qr (qw_val (v' := I (keepN keep s.loose.length)) (qw_max (.cons rfl (.cons rfl .nil))) (by unfold keepN; congr 1; omega))) ?_
  refine rg_q (.inl rfl) rfl rfl (by exact QW.qr (qw_assign rfl)) ?_
  refine rg_nil ?_
  refine qg_then ?_
  refine cg_seq ?_
  refine cg_region ?_
  refine rg_q (.inl rfl) rfl rfl (by exact QW.qr (qw_move rfl)) ?_
  refine rg_q (.inl rfl) rfl rfl (by exact QW.qr (qw_move rfl)) ?_
  refine rg_q (.inl rfl) rfl rfl (by exact QW.qr (qw_nilCheck rfl)) ?_
  refine rg_q (.inl rfl) rfl rfl (by exact QW.qr (qw_fieldAddr rfl)) ?_
  refine rg_q (.inl rfl) rfl rfl (by exact qr_load1 rfl (by repeat (first | exact List.Mem.head _ | apply List.Mem.tail | apply List.mem_append_right | assumption)) rfl) ?_
  refine rg_q (.inl rfl) rfl rfl (by exact QW.qr (qw_len_slice (t := 36) (.cons rfl (.nil)) rfl)) ?_
  refine rg_q (.inl rfl) rfl rfl (by exact QW.qr (qw_move rfl)) ?_
  refine rg_q (.inl rfl) rfl rfl (by exact QW.qr (qw_sub_in rfl rfl (by unfold inK; omega))) ?_
  refine rg_q (.inl rfl) rfl rfl (by exact QW.qr (qw_min (.cons rfl (.cons rfl .nil)))) ?_
  refine rg_q (.inl rfl) rfl rfl (by exact QW.qr (qw_val (v' := I (keepN zeros (s.loose.length - keepN keep s.loose.length))) (qw_max (.cons rfl (.cons rfl .nil))) (by unfold keepN at *; congr 1; omega))) ?_
  refine rg_q (.inl rfl) rfl rfl (by exact QW.qr (qw_assign rfl)) ?_
  refine rg_nil ?_
  refine qg_then ?_
  refine cg_seq ?_
  refine cg_draw follows (.op 0 false (.op 1 false (.op 2 false (.op 3 false (.op 4 false (.op 5 false (.op 6 false (.op 7 false (.op 8 false (.op 9 false (.op 10 false (.op 12 false (.op 11 false (.op 13 false (.op 14 false (.op 15 false (.op 16 false .done))))))))))))))))) _ (by kernel_rfl) (SubP.of (List.Sublist.refl _)) ?_
  refine dg_w rfl rfl (.inl rfl) rfl rfl (by exact qw_move rfl) ?_
  refine dg_w rfl rfl (.inl rfl) rfl rfl (by exact qw_move rfl) ?_
  refine dg_w rfl rfl (.inl rfl) rfl rfl (by exact qw_nilCheck rfl) ?_
  refine dg_w rfl rfl (.inl rfl) rfl rfl (by exact qw_fieldAddr rfl) ?_
  refine dg_r rfl rfl rfl (.inl rfl) rfl rfl (by exact qr_load1 rfl (by repeat (first | exact List.Mem.head _ | apply List.Mem.tail | apply List.mem_append_right | assumption)) rfl) ?_
  refine dg_w rfl rfl (.inl rfl) rfl rfl (by exact qw_move rfl) ?_
  refine dg_w rfl rfl (.inl rfl) rfl rfl (by exact qw_nilCheck rfl) ?_
  refine dg_w rfl rfl (.inl rfl) rfl rfl (by exact qw_fieldAddr rfl) ?_
  refine dg_r rfl rfl rfl (.inl rfl) rfl rfl (by exact qr_load1 rfl (by repeat (first | exact List.Mem.head _ | apply List.Mem.tail | apply List.mem_append_right | assumption)) rfl) ?_
  refine dg_w rfl rfl (.inl rfl) rfl rfl (by exact qw_move rfl) ?_
  refine dg_w rfl rfl (.inl rfl) rfl rfl (by exact qw_slice_hi (fun q h => hql.2.2.1.1 q h) rfl rfl (by omega) (by omega)) ?_
  refine dg_w rfl rfl (.inl rfl) rfl rfl (by exact qw_move rfl) ?_
  refine dg_g rfl rfl (.inl rfl) rfl rfl (by exact ev_appendL (ys := s.loose.take (keepN keep s.loose.length)) (T := 36) (T2 := 36) (.cons rfl (.cons rfl .nil)) rfl rfl hos (R := cat [[(b, _)], Bl] L) (cat_perm (ls' := [Bs, [(b, _)], Bl]) (ls := [[(b, _)], Bs, Bl]) (by repeat (first | exact PermM.nil | refine PermM.cons (by repeat (first | exact Ins.here | apply Ins.there)) ?_))) ((rdl_takeB hrl hkn).mono (fun q hq => mem_cat (s := Bl) (by repeat (first | exact List.Mem.head _ | apply List.Mem.tail)) hq)).src (fun _ => rfl) encB_one (by rw [List.length_take]; omega) rfl rfl rfl rfl) ?_
  rintro sv2 _ ⟨Bs2, hos2, rfl⟩
  obtain ⟨ps2, cs2, rfl, hqs2⟩ := id (hos2.rd (fun _ => rfl) (by decide))
  refine dg_g rfl rfl (.inl rfl) rfl rfl (by exact ev_appendZ 9 (T := 36) (T2 := 3) (.cons rfl (.cons rfl .nil)) rfl rfl hos2 (R := cat [[(b, _)], Bl] L) (List.Perm.refl _) (by rw [List.length_append, List.length_take]; omega) rfl) ?_
  rintro sv3 _ ⟨Bs3, hos3, rfl⟩
  obtain ⟨ps3, cs3, rfl, hqs3⟩ := id (hos3.rd (fun _ => rfl) (by decide))
  refine dg_w rfl rfl (.inl rfl) rfl rfl (by exact qw_nilCheck rfl) ?_
  refine dg_w rfl rfl (.inl rfl) rfl rfl (by exact qw_fieldAddr rfl) ?_
  refine dg_g0 rfl rfl (.inl rfl) rfl (by exact ev_store rfl rfl (by first | exact CellsOf.agg | exact CellsOf.one rfl) (by repeat (first | exact List.Mem.head _ | apply List.Mem.tail | apply List.mem_append_right | assumption)) (by repeat (first | exact SetSeg.done | apply SetSeg.take | apply SetSeg.skip)) rfl rfl (by repeat (first | exact Upd.here | apply Upd.there | apply Upd.app)) (by first | exact Or.inl ⟨inferInstance, rfl⟩ | exact Or.inr inferInstance)) ?_
  rintro _ _ ⟨rfl, rfl⟩
  refine dg_nil ?_
  refine qg_then ?_
  refine cg_seq ?_
  refine cg_region ?_
  refine rg_q (.inl rfl) rfl rfl (by exact QW.qr (qw_move rfl)) ?_
  refine rg_q (.inl rfl) rfl rfl (by exact QW.qr (qw_move rfl)) ?_
  refine rg_q (.inl rfl) rfl rfl (by exact QW.qr (qw_move rfl)) ?_
  refine rg_q (.inl rfl) rfl rfl (by exact QW.qr (qw_nilCheck rfl)) ?_
  refine rg_q (.inl rfl) rfl rfl (by exact QW.qr (qw_fieldAddr rfl)) ?_
  refine rg_e0 (.inl rfl) rfl (by exact ev_store rfl rfl (by first | exact CellsOf.agg | exact CellsOf.one rfl) (by repeat (first | exact List.Mem.head _ | apply List.Mem.tail | apply List.mem_append_right | assumption)) (by repeat (first | exact SetSeg.done | apply SetSeg.take | apply SetSeg.skip)) rfl rfl (by repeat (first | exact Upd.here | apply Upd.there | apply Upd.app)) (by first | exact Or.inl ⟨inferInstance, rfl⟩ | exact Or.inr inferInstance)) ?_
  rintro _ _ ⟨rfl, rfl⟩
  refine rg_q (.inl rfl) rfl rfl (by exact QW.qr (qw_nilCheck rfl)) ?_
  refine rg_q (.inl rfl) rfl rfl (by exact QW.qr (qw_fieldAddr rfl)) ?_
  refine rg_e0 (.inl rfl) rfl (by exact ev_store rfl rfl (by first | exact CellsOf.agg | exact CellsOf.one rfl) (by repeat (first | exact List.Mem.head _ | apply List.Mem.tail | apply List.mem_append_right | assumption)) (by repeat (first | exact SetSeg.done | apply SetSeg.take | apply SetSeg.skip)) rfl rfl (by repeat (first | exact Upd.here | apply Upd.there | apply Upd.app)) (by first | exact Or.inl ⟨inferInstance, rfl⟩ | exact Or.inr inferInstance)) ?_
  rintro _ _ ⟨rfl, rfl⟩
  refine rg_q (.inl rfl) rfl rfl (by exact QW.qr (qw_nilCheck rfl)) ?_
  refine rg_q (.inl rfl) rfl rfl (by exact QW.qr (qw_fieldAddr rfl)) ?_
  refine rg_e0 (.inl rfl) rfl (by exact ev_store rfl rfl (by first | exact CellsOf.agg | exact CellsOf.one rfl) (by repeat (first | exact List.Mem.head _ | apply List.Mem.tail | apply List.mem_append_right | assumption)) (by repeat (first | exact SetSeg.done | apply SetSeg.take | apply SetSeg.skip)) rfl rfl (by repeat (first | exact Upd.here | apply Upd.there | apply Upd.app)) (by first | exact Or.inl ⟨inferInstance, rfl⟩ | exact Or.inr inferInstance)) ?_
  rintro _ _ ⟨rfl, rfl⟩
  refine rg_nil ?_
  refine qg_then ?_
  refine cg_seq ?_
  refine cg_region ?_
  refine rg_q (.inl rfl) rfl rfl (by exact QW.qr (qw_assign rfl)) ?_
  refine rg_nil ?_
  refine qg_then ?_
  refine cg_ret ?_
  exact qg_end_sp (.inl rfl) _ (.cons (.tmp rfl) (.nil)) _ (cat_sub (ls' := [[(b, _)], Bs3]) (ls := [Bs3, [(b, _)], Bl]) (by repeat (first | exact SubM.nil | refine SubM.cons (by repeat (first | exact Ins.here | apply Ins.there)) ?_))) ⟨rfl, _ :: (Bs3 ++ []), by rw [List.append_nil]; rfl, ⟨_, _, Bs3, [], hos3, OwnL.nil, rfl⟩⟩

end Go.Proofs.Ytcbbogaanebefaa