/-
  RULES for strings compared and maps counted; THE WALKS of the logbook's calls over two slabs, and of the law's fits. Conditions: sizes.
-/
import Derived.Test.YtcbbogaanebefaaB19
import Derived.Laws.StructEq
namespace Go.Proofs.Ytcbbogaanebefaa
open Fw
open Go.Proofs (encStr)
set_option linter.unusedVariables false
set_option linter.unusedSimpArgs false
set_option maxRecDepth 100000
set_option maxHeartbeats 1000000

namespace Fw
variable {P : Program} {n : Nat} {E : Env} {O : Out} {L : List Blk} {dst : Option Tmp} {T ty : TypeId} {pos : String} {after : Array _root_.Go.Edge} {g : Option (Nat × Bool)} {x y : Operand}
theorem encStr_inj {a b : Bytes} : ((⟨a.toArray⟩ : ByteArray).toList == (⟨b.toArray⟩ : ByteArray).toList) = decide (a = b) := by
  rw [← beq_toListBytes]
  have h := MapKept.bytes_beq (⟨a.toArray⟩ : ByteArray) (⟨b.toArray⟩ : ByteArray)
  by_cases hab : a = b
  · subst hab; rw [h.2 rfl, decide_eq_true rfl]
  · rw [decide_eq_false hab]
    refine Bool.eq_false_iff.2 fun h2 => hab ?_
    have := congrArg (fun z : ByteArray => z.data.toList) (h.1 h2)
    simpa using this
theorem qw_eql_str {a b : Bytes} {yt : TypeId} (h : ev E x = some (encStr a)) (hy : ev E y = some (encStr b)) : QW P ⟨dst, .binOp .eql T x y yt, ty, pos, after, g⟩ E (.bool (decide (a = b))) := fun ac n hf w => by
  have h3 : (eqGuard .eql T x y (encStr a) (encStr b)).run P w = .ok () w := by unfold eqGuard; simp
  have h4 : (Op.stringOp .eql ⟨a.toArray⟩ ⟨b.toArray⟩).run P w = .ok (.bool (decide (a = b))) w := by
    rw [← encStr_inj]; rfl
  simp only [execOp, hf.ev h, hf.ev hy, Sem.run_bind, h3, Result.andThen_ok, binOp, h4, Sem.run_pure]
theorem qw_neq_str {a b : Bytes} {yt : TypeId} (h : ev E x = some (encStr a)) (hy : ev E y = some (encStr b)) : QW P ⟨dst, .binOp .neq T x y yt, ty, pos, after, g⟩ E (.bool (!decide (a = b))) := fun ac n hf w => by
  have h3 : (eqGuard .neq T x y (encStr a) (encStr b)).run P w = .ok () w := by unfold eqGuard; simp
  have h4 : (Op.stringOp .neq ⟨a.toArray⟩ ⟨b.toArray⟩).run P w = .ok (.bool (!decide (a = b))) w := by
    rw [← encStr_inj]; rfl
  simp only [execOp, hf.ev h, hf.ev hy, Sem.run_bind, h3, Result.andThen_ok, binOp, h4, Sem.run_pure]
theorem qr_len_map {γ : Type} {es : Array MapEntry} {c b : Nat} {val : γ → Value} {ms : List (Bytes × γ)} {t kt et : TypeId} {ar : List Operand} {at_ : Array TypeId} [ht : TUn P t (.map kt et)] (ha : EvAll E ar [.map (some b)]) (h2 : at_[0]? = some t) (hm : (b, Obj.map es c) ∈ L) (ho : MapS es c val ms) :
    QR P ⟨dst, .call { callee := .builtin .len, args := ar.toArray, argTypes := at_ }, ty, pos, after, g⟩ E O L (.int .i64 ms.length) := fun a n hf w hh => by
  have hargs := ha.map hf
  have hb := hh.all _ _ hm
  have hsz : es.size = ms.length := by
    have := congrArg List.length ho.eq
    simpa using this
  simp [execOp, resolve, hargs, invoke, builtin, Builtin.len_, h2, run_underlying ht.ok, MapKept.run_getObj_map hb, goInt, hsz]
end Fw

/-- A step of the law. -/
structure OpT where
  kind : Int
  name : Bytes
  value : Bytes
  which : UInt8
  n : Int
  k0 : Int
  k1 : Int
  z0 : Int
  z1 : Int
def encOp (o : OpT) : List Value := [I o.kind, encStr o.name, encStr o.value, .int .u8 o.which.toNat, I o.n, I o.k0, I o.k1, I o.z0, I o.z1]
def fitsO (o : OpT) : Prop := (o.name.length : Int) ≤ 300 ∧ (o.value.length : Int) ≤ 5000
instance (o : OpT) : Decidable (fitsO o) := by unfold fitsO; infer_instance

theorem fits_ca (o : OpT) (O : Out) (L : List Blk) : CA Try.prog 9 [.agg (encOp o).toArray] O L fun v L' => v = .bool (decide (fitsO o)) ∧ L' = L := by
  unfold encOp
  refine ca_enter Try.func9 rfl rfl ?_
  rw [Try.ntmps9]
  simp only [envOf]
  refine cg_seq ?_
  refine cg_region ?_
  refine rg_e (.inl rfl) rfl rfl (by exact ev_box rfl (by first | exact CellsOf.agg | exact CellsOf.one rfl)) ?_
  rintro _ _ ⟨b1, rfl, rfl⟩
  refine rg_q (.inl rfl) rfl rfl (by exact QW.qr (qw_assign rfl)) ?_
  refine rg_nil ?_
  refine qg_then ?_
  refine cg_seq ?_
  refine cg_region ?_
  refine rg_q (.inl rfl) rfl rfl (by exact QW.qr (qw_fieldAddr rfl)) ?_
  refine rg_q (.inl rfl) rfl rfl (by exact qr_load1 rfl (by repeat (first | exact List.Mem.head _ | apply List.Mem.tail | apply List.mem_append_right | assumption)) rfl) ?_
  refine rg_q (.inl rfl) rfl rfl (by exact QW.qr (qw_len_enc (t := 9) (.cons rfl .nil) rfl)) ?_
  refine rg_split (.inl rfl) rfl rfl (by exact qc_leq rfl rfl) ?_ ?_
  · intro h1
    refine rg_q (.inl rfl) rfl rfl (by exact QW.qr (qw_move rfl)) ?_
    refine rg_q (.inr (guard_mk rfl rfl rfl rfl)) rfl rfl (by exact QW.qr (qw_fieldAddr rfl)) ?_
    refine rg_q (.inr (guard_mk rfl rfl rfl rfl)) rfl rfl (by exact qr_load1 rfl (by repeat (first | exact List.Mem.head _ | apply List.Mem.tail | apply List.mem_append_right | assumption)) rfl) ?_
    refine rg_q (.inr (guard_mk rfl rfl rfl rfl)) rfl rfl (by exact QW.qr (qw_len_enc (t := 9) (.cons rfl .nil) rfl)) ?_
    refine rg_split (.inr (guard_mk rfl rfl rfl rfl)) rfl rfl (by exact qc_leq rfl rfl) ?_ ?_
    · intro h2
      have hfin : decide (fitsO o) = true := decide_eq_true ⟨h1, h2⟩
      refine rg_q (.inl rfl) rfl rfl (by exact QW.qr (qw_pick_t rfl rfl)) ?_
      refine rg_q (.inl rfl) rfl rfl (by exact QW.qr (qw_assign rfl)) ?_
      refine rg_nil ?_
      refine qg_then ?_
      refine cg_ret ?_
      exact qg_end (.inl rfl) _ (.cons (.tmp rfl) (.nil)) _ (by repeat (first | exact List.Sublist.refl _ | exact List.nil_sublist _ | exact List.sublist_append_right _ _ | apply List.Sublist.cons_cons | apply List.Sublist.cons | refine List.Sublist.trans ?_ (List.sublist_append_right _ _))) ⟨by rw [hfin] <;> rfl, rfl⟩
    · intro h2
      have hfin : decide (fitsO o) = false := decide_eq_false fun h => h2 h.2
      refine rg_q (.inl rfl) rfl rfl (by exact QW.qr (qw_pick_t rfl rfl)) ?_
      refine rg_q (.inl rfl) rfl rfl (by exact QW.qr (qw_assign rfl)) ?_
      refine rg_nil ?_
      refine qg_then ?_
      refine cg_ret ?_
      exact qg_end (.inl rfl) _ (.cons (.tmp rfl) (.nil)) _ (by repeat (first | exact List.Sublist.refl _ | exact List.nil_sublist _ | exact List.sublist_append_right _ _ | apply List.Sublist.cons_cons | apply List.Sublist.cons | refine List.Sublist.trans ?_ (List.sublist_append_right _ _))) ⟨by rw [hfin] <;> rfl, rfl⟩
  · intro h1
    have hfin : decide (fitsO o) = false := decide_eq_false fun h => h1 h.1
    refine rg_q (.inl rfl) rfl rfl (by exact QW.qr (qw_move rfl)) ?_
    refine rg_s (guard_mk rfl rfl rfl rfl) rfl rfl ?_
    refine rg_s (guard_mk rfl rfl rfl rfl) rfl rfl ?_
    refine rg_s (guard_mk rfl rfl rfl rfl) rfl rfl ?_
    refine rg_s (guard_mk rfl rfl rfl rfl) rfl rfl ?_
    refine rg_q (.inl rfl) rfl rfl (by exact QW.qr (qw_pick_f rfl rfl)) ?_
    refine rg_q (.inl rfl) rfl rfl (by exact QW.qr (qw_assign rfl)) ?_
    refine rg_nil ?_
    refine qg_then ?_
    refine cg_ret ?_
    exact qg_end (.inl rfl) _ (.cons (.tmp rfl) (.nil)) _ (by repeat (first | exact List.Sublist.refl _ | exact List.nil_sublist _ | exact List.sublist_append_right _ _ | apply List.Sublist.cons_cons | apply List.Sublist.cons | refine List.Sublist.trans ?_ (List.sublist_append_right _ _))) ⟨by rw [hfin] <;> rfl, rfl⟩


def act2 (f : Lb → Slab → Lb × Slab × Int) (l : Lb) (s0 s1 : Slab) : Lb × Slab × Slab × Int := ((f l (actS l s0 s1)).1, (setA l s0 s1 (f l (actS l s0 s1)).2.1).1, (setA l s0 s1 (f l (actS l s0 s1)).2.1).2, (f l (actS l s0 s1)).2.2)
theorem lift2 {fid : FuncId} {args : List Value} (f : Lb → Slab → Lb × Slab × Int) (bl b0 b1 : Nat) (l : Lb) (s0 s1 : Slab) (K K0 K1 : List Blk) (O : Out) (F : List Blk) (hl : LbIn bl b0 b1 l K) (h0 : SlabAt b0 s0 K0) (h1 : SlabAt b1 s1 K1) (hat : (f l (actS l s0 s1)).1.at_ = l.at_)
    (hca : ∀ ba bo Ka F', LbAt bl ba bo l K → SlabAt ba (actS l s0 s1) Ka → (∀ q, q ∈ F → q ∈ F') → CA Try.prog fid args O (cat [K, Ka] F') fun v L' => v = I (f l (actS l s0 s1)).2.2 ∧ ∃ K2 Ka2, L' = cat [K2, Ka2] F' ∧ LbAt bl ba bo (f l (actS l s0 s1)).1 K2 ∧ SlabAt ba (f l (actS l s0 s1)).2.1 Ka2) :
    CA Try.prog fid args O (cat [K, K0, K1] F) fun v L' => v = I (act2 f l s0 s1).2.2.2 ∧ ∃ K2 K02 K12, L' = cat [K2, K02, K12] F ∧ LbIn bl b0 b1 (act2 f l s0 s1).1 K2 ∧ SlabAt b0 (act2 f l s0 s1).2.1 K02 ∧ SlabAt b1 (act2 f l s0 s1).2.2.1 K12 := by
  rcases hl.1 with hz | hz
  · have ha : actS l s0 s1 = s0 := by rw [actS, if_pos hz]
    unfold act2 setA
    rw [ha] at hca hat ⊢
    rw [if_pos hz]
    refine (hca b0 b1 K0 (cat [K1] F) ((LbIn.zero hz).1 hl) h0 (fun q hq => mem_catF hq)).mono fun v L' ⟨h2, K2, Ka2, h3, h4, h5⟩ => ⟨h2, K2, Ka2, K1, h3, (LbIn.zero (hat.trans hz)).2 h4, h5, h1⟩
  · have hn0 : ¬ l.at_ = 0 := by omega
    have ha : actS l s0 s1 = s1 := by rw [actS, if_neg hn0]
    unfold act2 setA
    rw [ha] at hca hat ⊢
    rw [if_neg hn0]
    refine ((hca b1 b0 K1 (cat [K0] F) ((LbIn.one hz).1 hl) h1 (fun q hq => mem_catF hq)).pre (fun w h => h.perm (cat_perm (ls' := [K, K1, K0]) (ls := [K, K0, K1]) (by repeat (first | exact PermM.nil | refine PermM.cons (by repeat (first | exact Ins.here | apply Ins.there)) ?_))))).post fun v L' ⟨h2, K2, Ka2, h3, h4, h5⟩ => ?_
    subst h3
    exact ⟨cat [K2, K0, Ka2] F, ⟨h2, K2, K0, Ka2, rfl, (LbIn.one (hat.trans hz)).2 h4, h0, h5⟩, cat_sub (ls' := [K2, K0, Ka2]) (ls := [K2, Ka2, K0]) (by repeat (first | exact SubM.nil | refine SubM.cons (by repeat (first | exact Ins.here | apply Ins.there)) ?_))⟩
theorem actS_size {l : Lb} {s0 s1 : Slab} {m : Nat} (h0 : sizeS s0 ≤ m) (h1 : sizeS s1 ≤ m) : (actS l s0 s1).sure.length + (actS l s0 s1).loose.length ≤ m := by
  unfold actS
  split
  · exact h0
  · exact h1
theorem put_at (l : Lb) (s : Slab) (n v : Bytes) : (putL l s n v).1.at_ = l.at_ := by
  rcases put_cases l s n v with ⟨d, s', e, h, _⟩ | ⟨s', _, _, _, h, _⟩ <;> rw [h]
theorem drop_at (l : Lb) (s : Slab) (n : Bytes) : (dropL l s n).1.at_ = l.at_ := by
  unfold dropL
  split
  · rfl
  · split
    · rfl
    · split <;> rfl
theorem sync_at (l : Lb) (s : Slab) : (syncL l s).1.at_ = l.at_ := by
  unfold syncL
  split <;> rfl
section
variable (bl b0 b1 : Nat) (l : Lb) (s0 s1 : Slab) (K K0 K1 : List Blk) (O : Out) (F : List Blk) (hl : LbIn bl b0 b1 l K) (h0 : SlabAt b0 s0 K0) (h1 : SlabAt b1 s1 K1) (hz0 : sizeS s0 ≤ 300000) (hz1 : sizeS s1 ≤ 300000)
include hl h0 h1 hz0 hz1
theorem put2_ca (name val : Bytes) (vv : Value) (hv : RdL F encB 1 vv val) : CA Try.prog 10 [PT bl, encStr name, vv] O (cat [K, K0, K1] F) fun v L' => v = I (act2 (fun l s => putL l s name val) l s0 s1).2.2.2 ∧ ∃ K2 K02 K12, L' = cat [K2, K02, K12] F ∧ LbIn bl b0 b1 (act2 (fun l s => putL l s name val) l s0 s1).1 K2 ∧ SlabAt b0 (act2 (fun l s => putL l s name val) l s0 s1).2.1 K02 ∧ SlabAt b1 (act2 (fun l s => putL l s name val) l s0 s1).2.2.1 K12 :=
  lift2 (fun l s => putL l s name val) bl b0 b1 l s0 s1 K K0 K1 O F hl h0 h1 (put_at _ _ _ _) fun ba bo Ka F' g1 g2 g3 => put_ca bl ba bo l (actS l s0 s1) K Ka name val vv O F' g1 g2 (actS_size hz0 hz1) (hv.mono g3)
theorem drop2_ca (name : Bytes) (hn : hasG l.has name = true → name.length ≤ 100000) : CA Try.prog 11 [PT bl, encStr name] O (cat [K, K0, K1] F) fun v L' => v = I (act2 (fun l s => dropL l s name) l s0 s1).2.2.2 ∧ ∃ K2 K02 K12, L' = cat [K2, K02, K12] F ∧ LbIn bl b0 b1 (act2 (fun l s => dropL l s name) l s0 s1).1 K2 ∧ SlabAt b0 (act2 (fun l s => dropL l s name) l s0 s1).2.1 K02 ∧ SlabAt b1 (act2 (fun l s => dropL l s name) l s0 s1).2.2.1 K12 :=
  lift2 (fun l s => dropL l s name) bl b0 b1 l s0 s1 K K0 K1 O F hl h0 h1 (drop_at _ _ _) fun ba bo Ka F' g1 g2 g3 => by
    cases hh : hasG l.has name with
    | false => exact drop_no bl ba bo l (actS l s0 s1) K Ka name O F' g1 g2 (actS_size hz0 hz1) hh
    | true => exact drop_yes bl ba bo l (actS l s0 s1) K Ka name O F' g1 g2 (actS_size hz0 hz1) hh (hn hh)
theorem sync2_ca : CA Try.prog 12 [PT bl] O (cat [K, K0, K1] F) fun v L' => v = I (act2 syncL l s0 s1).2.2.2 ∧ ∃ K2 K02 K12, L' = cat [K2, K02, K12] F ∧ LbIn bl b0 b1 (act2 syncL l s0 s1).1 K2 ∧ SlabAt b0 (act2 syncL l s0 s1).2.1 K02 ∧ SlabAt b1 (act2 syncL l s0 s1).2.2.1 K12 :=
  lift2 syncL bl b0 b1 l s0 s1 K K0 K1 O F hl h0 h1 (sync_at _ _) fun ba bo Ka F' g1 g2 g3 => lbSync_ca bl ba bo l (actS l s0 s1) K Ka O F' g1 g2 (actS_size hz0 hz1)
end
theorem names_in (bl b0 b1 : Nat) (l : Lb) (K : List Blk) (O : Out) (F : List Blk) (hl : LbIn bl b0 b1 l K) (hsz : l.has.length ≤ 1000000) (hlen : ∀ t ∈ l.has, t.1.length ≤ 1000000) :
    CA Try.prog 15 [PT bl] O (cat [K] F) fun v L' => ∃ B, OwnL 9 encN 1 v (namesOf l.has) B ∧ L' = B ++ cat [K] F := by
  rcases hl.1 with hz | hz
  · exact names_ca bl b0 b1 l K O F ((LbIn.zero hz).1 hl) hsz hlen
  · exact names_ca bl b1 b0 l K O F ((LbIn.one hz).1 hl) hsz hlen
theorem get_in (bl b0 b1 : Nat) (l : Lb) (K : List Blk) (name : Bytes) (O : Out) (F : List Blk) (hl : LbIn bl b0 b1 l K) (hv : ∀ t ∈ l.has, t.2.length ≤ 1000000) :
    CA Try.prog 16 [PT bl, encStr name] O (cat [K] F) fun v L' => ∃ gv B, v = .tuple #[gv, .bool (getG l.has name).isSome] ∧ L' = B ++ cat [K] F ∧ RdL B encB 1 gv ((getG l.has name).getD []) := by
  rcases hl.1 with hz | hz
  · exact get_ca bl b0 b1 l K name O F ((LbIn.zero hz).1 hl) hv
  · exact get_ca bl b1 b0 l K name O F ((LbIn.one hz).1 hl) hv

end Go.Proofs.Ytcbbogaanebefaa