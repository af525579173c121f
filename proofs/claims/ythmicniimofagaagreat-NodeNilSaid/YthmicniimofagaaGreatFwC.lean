/-
  THE BASE OF THE WALKS (3): the operations' rules. No condition.
-/
import Derived.Test.YthmicniimofagaaGreatFwB
import Derived.Laws.Entries
namespace Go.Proofs.YthmicniimofagaaGreat
namespace Fw
set_option linter.unusedSimpArgs false
variable {P : Program} {n : Nat} {E : Env} {O : Out} {L : List Blk}

/-! ### the types' tables -/
class TFld (P : Program) (T k : Nat) (off : outParam Nat) : Prop where
  ok : (match P.underlying T with
    | some (.struct fs) => (match fs[k]? with
      | some f => f.offset == off && (match P.info? f.type with
        | some i => i.size != 0
        | none => false)
      | none => false)
    | _ => false) = true
class TOne (P : Program) (T : Nat) : Prop where
  ok : ((match P.underlying T with
    | some (.struct _) => false
    | some (.array _ _) => false
    | some _ => true
    | none => false) && (match P.info? T with
    | some i => i.size == 1
    | none => false)) = true
class TAgg (P : Program) (T : Nat) (sz : outParam Nat) : Prop where
  ok : ((match P.underlying T with
    | some (.struct _) => true
    | some (.array _ _) => true
    | _ => false) && (match P.info? T with
    | some i => i.size == sz
    | none => false)) = true
class TArr (P : Program) (T : Nat) (len esz : outParam Nat) : Prop where
  ok : (match P.underlying T with
    | some (.array m e) => m == len && (match P.info? e with
      | some i => i.size == esz
      | none => false)
    | _ => false) = true
class TSl (P : Program) (T : Nat) (e esz eby : outParam Nat) : Prop where
  ok : (match P.underlying T with
    | some (.slice e') => e' == e && (match P.info? e with
      | some i => i.size == esz && i.bytes == eby
      | none => false)
    | _ => false) = true
class TZero (P : Program) (T : Nat) (z : outParam Value) : Prop where
  ok : (P.info? T).bind (·.zero) = some z
class TUn (P : Program) (T : Nat) (d : outParam TypeDesc) : Prop where
  ok : P.underlying T = some d

theorem TFld.get {T k off : Nat} (h : TFld P T k off) : ∃ fs f i, P.underlying T = some (.struct fs) ∧ fs[k]? = some f ∧ f.offset = off ∧ P.info? f.type = some i ∧ i.size ≠ 0 := by
  have := h.ok
  split at this <;> try cases this
  rename_i fs hu
  split at this <;> try cases this
  rename_i f hf
  simp only [Bool.and_eq_true, beq_iff_eq] at this
  obtain ⟨h1, h2⟩ := this
  split at h2 <;> try cases h2
  rename_i i hi
  exact ⟨fs, f, i, hu, hf, h1, hi, by simpa using h2⟩
theorem TSl.get {T e esz eby : Nat} (h : TSl P T e esz eby) : ∃ i, P.underlying T = some (.slice e) ∧ P.info? e = some i ∧ i.size = esz ∧ i.bytes = eby := by
  have := h.ok
  split at this <;> try cases this
  rename_i e' hu
  simp only [Bool.and_eq_true, beq_iff_eq] at this
  obtain ⟨rfl, h2⟩ := this
  split at h2 <;> try cases h2
  rename_i i hi
  simp only [Bool.and_eq_true, beq_iff_eq] at h2
  exact ⟨i, hu, hi, h2.1, h2.2⟩
theorem TArr.get {T m esz : Nat} (h : TArr P T m esz) : ∃ e i, P.underlying T = some (.array m e) ∧ P.info? e = some i ∧ i.size = esz := by
  have := h.ok
  split at this <;> try cases this
  rename_i m' e hu
  simp only [Bool.and_eq_true, beq_iff_eq] at this
  obtain ⟨rfl, h2⟩ := this
  split at h2 <;> try cases h2
  rename_i i hi
  exact ⟨e, i, hu, hi, by simpa using h2⟩

theorem run_sizeOf' {T : Nat} {i : TypeInfo} (h : P.info? T = some i) (w : World) : (sizeOf T).run P w = .ok i.size w := by
  simp [sizeOf, typeInfo, h]
theorem run_zero {T : Nat} {z : Value} [h : TZero P T z] (w : World) : (zeroValue T).run P w = .ok z w := by
  have := h.ok
  cases hi : P.info? T with
  | none => simp [hi] at this
  | some i =>
    simp only [hi, Option.bind_some] at this
    simp [zeroValue, typeInfo, hi, this]
theorem TOne.isAgg {T : Nat} (h : TOne P T) (w : World) : (isAgg T).run P w = .ok false w := by
  have := h.ok
  simp only [Bool.and_eq_true] at this
  cases hu : P.underlying T with
  | none => simp [hu] at this
  | some d => cases d <;> simp_all [Go.isAgg, run_underlying hu]
theorem TOne.size {T : Nat} (h : TOne P T) (w : World) : (sizeOf T).run P w = .ok 1 w := by
  have := h.ok
  simp only [Bool.and_eq_true] at this
  cases hi : P.info? T with
  | none => simp [hi] at this
  | some i =>
    simp only [hi, beq_iff_eq] at this
    rw [run_sizeOf' hi, this.2]
theorem TAgg.isAgg {T sz : Nat} (h : TAgg P T sz) (w : World) : (isAgg T).run P w = .ok true w := by
  have := h.ok
  simp only [Bool.and_eq_true] at this
  cases hu : P.underlying T with
  | none => simp [hu] at this
  | some d => cases d <;> simp_all [Go.isAgg, run_underlying hu]
theorem TAgg.size {T sz : Nat} (h : TAgg P T sz) (w : World) : (sizeOf T).run P w = .ok sz w := by
  have := h.ok
  simp only [Bool.and_eq_true] at this
  cases hi : P.info? T with
  | none => simp [hi] at this
  | some i =>
    simp only [hi, beq_iff_eq] at this
    rw [run_sizeOf' hi, this.2]

@[simp] theorem add_at (b o i : Nat) : (⟨b, o, none⟩ : Addr).add i = ⟨b, o + i, none⟩ := by
  unfold Addr.add
  split <;> simp_all

/-! ### parts of a row -/
/-- From place o on these values stand. -/
def Seg (cs : Array Value) (o : Nat) (vs : List Value) : Prop := ∀ j, j < vs.length → cs[o + j]? = vs[j]?

inductive SegL : List Value → Nat → Nat → List Value → Prop
  | done {l : List Value} {o : Nat} : SegL l o 0 []
  | take {c : Value} {l : List Value} {m : Nat} {vs : List Value} (h : SegL l 0 m vs) : SegL (c :: l) 0 (m + 1) (c :: vs)
  | skip {c : Value} {l : List Value} {o m : Nat} {vs : List Value} (h : SegL l o m vs) : SegL (c :: l) (o + 1) m vs

theorem SegL.seg {l : List Value} {o m : Nat} {vs : List Value} (h : SegL l o m vs) : Seg l.toArray o vs ∧ vs.length = m := by
  induction h with
  | done => exact ⟨fun j hj => by simp at hj, rfl⟩
  | take h ih =>
    refine ⟨fun j hj => ?_, by simp [ih.2]⟩
    cases j with
    | zero => simp
    | succ j =>
      have := ih.1 j (by simpa using hj)
      simpa using this
  | skip h ih =>
    refine ⟨fun j hj => ?_, ih.2⟩
    have := ih.1 j hj
    rename_i c l o m vs
    simp only [List.getElem?_toArray] at this ⊢
    rw [show o + 1 + j = (o + j) + 1 from by omega, List.getElem?_cons_succ]
    exact this

theorem run_loadCellsFrom {w : World} {b o : Nat} {vs : List Value} : ∀ (k : Nat) (i : Nat) (acc : Array Value), i + k = vs.length → (∀ j, j < vs.length → w.cell? ⟨b, o + j, none⟩ = vs[j]?) →
    (loadCellsFrom ⟨b, o, none⟩ i k acc).run P w = .ok (acc ++ (vs.drop i).toArray) w
  | 0, i, acc, hk, _ => by
    have : vs.drop i = [] := List.drop_eq_nil_of_le (by omega)
    simp [loadCellsFrom, this]
  | k + 1, i, acc, hk, h => by
    have hi : i < vs.length := by omega
    have h1 := h i hi
    rw [List.getElem?_eq_getElem hi] at h1
    have h2 := run_loadCellsFrom k (i + 1) (acc.push vs[i]) (by omega) h
    simp only [loadCellsFrom, Sem.run_bind, add_at, run_load, h1, Result.andThen_ok, h2]
    rw [List.drop_eq_getElem_cons hi]
    simp

theorem run_loadAgg {w : World} {T b o : Nat} {vs : List Value} [h : TAgg P T vs.length] (hv : ∀ j, j < vs.length → w.cell? ⟨b, o + j, none⟩ = vs[j]?) :
    (loadVar T ⟨b, o, none⟩).run P w = .ok (.agg vs.toArray) w := by
  unfold loadVar loadCells
  simp [h.isAgg, h.size, run_loadCellsFrom (P := P) vs.length 0 #[] (by simp) hv]

theorem run_loadOne {w : World} {T b o : Nat} {v : Value} [h : TOne P T] (hv : w.cell? ⟨b, o, none⟩ = some v) :
    (loadVar T ⟨b, o, none⟩).run P w = .ok v w := by
  unfold loadVar
  simp [h.isAgg, hv]

section
variable {dst : Option Tmp} {ty : TypeId} {pos : String} {after : Array Edge} {g : Option (Nat × Bool)} {x y z : Operand} {v u : Value} {T : Nat}

theorem qw_move (h : ev E x = some v) : QW P ⟨dst, .move x, ty, pos, after, g⟩ E v := fun a n hf w => by simp [execOp, hf.ev h]
theorem qw_assign (h : ev E x = some v) : QW P ⟨dst, .assign x, ty, pos, after, g⟩ E v := fun a n hf w => by simp [execOp, hf.ev h]
theorem qw_pick_t (h : ev E x = some (.bool true)) (hy : ev E y = some v) : QW P ⟨dst, .pick x y z, ty, pos, after, g⟩ E v := fun a n hf w => by
  simp [execOp, hf.ev h, hf.ev hy, asBool]
theorem qw_pick_f (h : ev E x = some (.bool false)) (hz : ev E z = some v) : QW P ⟨dst, .pick x y z, ty, pos, after, g⟩ E v := fun a n hf w => by
  simp [execOp, hf.ev h, hf.ev hz, asBool]
theorem qw_nilCheck {p : Addr} (h : ev E x = some (.pointer (some p))) : QW P ⟨dst, .nilCheck x, ty, pos, after, g⟩ E (.pointer (some p)) := fun a n hf w => by
  simp [execOp, hf.ev h]
theorem qw_fieldAddr {k off b o : Nat} [ht : TFld P T k off] (h : ev E x = some (.pointer (some ⟨b, o, none⟩))) :
    QW P ⟨dst, .fieldAddr T x k, ty, pos, after, g⟩ E (.pointer (some ⟨b, o + off, none⟩)) := fun a n hf w => by
  obtain ⟨fs, f, i, h1, h2, h3, h4, h5⟩ := ht.get
  simp [execOp, Instr.fieldAt, run_underlying h1, h2, hf.ev h, Instr.sureAddr, fieldPlace, run_sizeOf' h4, h5, h3]
theorem qw_indexAddr {e esz eby b o len cap : Nat} {k : IntKind} {i : Int} [ht : TSl P T e esz eby] (h : ev E x = some (.slice (some ⟨b, o, none⟩) len cap)) (hy : ev E y = some (.int k i)) (h0 : 0 ≤ i) (h1 : i < len) :
    QW P ⟨dst, .indexAddr T x y, ty, pos, after, g⟩ E (.pointer (some ⟨b, o + i.toNat * esz, none⟩)) := fun a n hf w => by
  obtain ⟨inf, t1, t2, t3, _⟩ := ht.get
  simp [execOp, Instr.indexAt, asIntOf, hf.ev h, hf.ev hy, run_underlying t1, h0, h1, run_sizeOf' t2, t3]
theorem qw_indexAddr_arr {len esz b o : Nat} {k : IntKind} {i : Int} [ht : TArr P T len esz] (h : ev E x = some (.pointer (some ⟨b, o, none⟩))) (hy : ev E y = some (.int k i)) (h0 : 0 ≤ i) (h1 : i < len) :
    QW P ⟨dst, .indexAddr T x y, ty, pos, after, g⟩ E (.pointer (some ⟨b, o + i.toNat * esz, none⟩)) := fun a n hf w => by
  obtain ⟨e, inf, t1, t2, t3⟩ := ht.get
  simp [execOp, Instr.indexAt, asIntOf, hf.ev h, hf.ev hy, run_underlying t1, h0, h1, run_sizeOf' t2, t3, Instr.sureAddr]
theorem qw_extract {vs : List Value} {i : Nat} (h : ev E x = some (.tuple vs.toArray)) (hi : vs[i]? = some v) : QW P ⟨dst, .extract x i, ty, pos, after, g⟩ E v := fun a n hf w => by
  simp [execOp, hf.ev h, Instr.extract, hi]
theorem qw_not {c : Bool} (h : ev E x = some (.bool c)) : QW P ⟨dst, .unOp .not T x, ty, pos, after, g⟩ E (.bool !c) := fun a n hf w => by
  simp [execOp, hf.ev h, Op.unary]
theorem qw_makeFunc {fn : Fn} {first captured : List Operand} {fs cs : List Value} (h1 : EvAll E first fs) (h2 : EvAll E captured cs) :
    QW P ⟨dst, .makeFunc fn first.toArray captured.toArray, ty, pos, after, g⟩ E (.func fn fs.toArray cs.toArray) := fun a n hf w => by
  simp [execOp, Instr.makeFunc, h1.map hf, h2.map hf]

/-! integers -/
theorem eqGuard_int {op : BinOp} {k k' : IntKind} {i j : Int} {w : World} : (eqGuard op T x y (.int k i) (.int k' j)).run P w = .ok () w := by
  unfold eqGuard
  split <;> simp

theorem qw_add {k : IntKind} {i j : Int} {yt : TypeId} (h : ev E x = some (.int k i)) (hy : ev E y = some (.int k j)) : QW P ⟨dst, .binOp .add T x y yt, ty, pos, after, g⟩ E (.int k (k.wrap (i + j))) := fun a n hf w => by
  simp [execOp, hf.ev h, hf.ev hy, eqGuard_int, binOp, Op.intArith]
theorem qw_sub {k : IntKind} {i j : Int} {yt : TypeId} (h : ev E x = some (.int k i)) (hy : ev E y = some (.int k j)) : QW P ⟨dst, .binOp .sub T x y yt, ty, pos, after, g⟩ E (.int k (k.wrap (i - j))) := fun a n hf w => by
  simp [execOp, hf.ev h, hf.ev hy, eqGuard_int, binOp, Op.intArith]
theorem qw_mul {k : IntKind} {i j : Int} {yt : TypeId} (h : ev E x = some (.int k i)) (hy : ev E y = some (.int k j)) : QW P ⟨dst, .binOp .mul T x y yt, ty, pos, after, g⟩ E (.int k (k.wrap (i * j))) := fun a n hf w => by
  simp [execOp, hf.ev h, hf.ev hy, eqGuard_int, binOp, Op.intArith]
def inK (k : IntKind) (i : Int) : Prop := match k with
  | .i8 => -128 ≤ i ∧ i ≤ 127
  | .i16 => -32768 ≤ i ∧ i ≤ 32767
  | .i32 => -2147483648 ≤ i ∧ i ≤ 2147483647
  | .i64 => -9223372036854775808 ≤ i ∧ i ≤ 9223372036854775807
  | .u8 => 0 ≤ i ∧ i ≤ 255
  | .u16 => 0 ≤ i ∧ i ≤ 65535
  | .u32 => 0 ≤ i ∧ i ≤ 4294967295
  | .u64 => 0 ≤ i ∧ i ≤ 18446744073709551615
theorem wrap_in {k : IntKind} {i : Int} (h : inK k i) : k.wrap i = i := by
  cases k <;> simp only [inK] at h <;> simp only [IntKind.wrap, IntKind.bits, IntKind.signed] <;> simp <;> omega
theorem qw_add_in {k : IntKind} {i j : Int} {yt : TypeId} (h : ev E x = some (.int k i)) (hy : ev E y = some (.int k j)) (hk : inK k (i + j)) : QW P ⟨dst, .binOp .add T x y yt, ty, pos, after, g⟩ E (.int k (i + j)) := by
  have := qw_add (P := P) (dst := dst) (ty := ty) (pos := pos) (after := after) (g := g) (T := T) (yt := yt) h hy
  rwa [wrap_in hk] at this
theorem qw_sub_in {k : IntKind} {i j : Int} {yt : TypeId} (h : ev E x = some (.int k i)) (hy : ev E y = some (.int k j)) (hk : inK k (i - j)) : QW P ⟨dst, .binOp .sub T x y yt, ty, pos, after, g⟩ E (.int k (i - j)) := by
  have := qw_sub (P := P) (dst := dst) (ty := ty) (pos := pos) (after := after) (g := g) (T := T) (yt := yt) h hy
  rwa [wrap_in hk] at this
theorem qw_mul_in {k : IntKind} {i j : Int} {yt : TypeId} (h : ev E x = some (.int k i)) (hy : ev E y = some (.int k j)) (hk : inK k (i * j)) : QW P ⟨dst, .binOp .mul T x y yt, ty, pos, after, g⟩ E (.int k (i * j)) := by
  have := qw_mul (P := P) (dst := dst) (ty := ty) (pos := pos) (after := after) (g := g) (T := T) (yt := yt) h hy
  rwa [wrap_in hk] at this
theorem qw_eql {k : IntKind} {i j : Int} {yt : TypeId} (h : ev E x = some (.int k i)) (hy : ev E y = some (.int k j)) : QW P ⟨dst, .binOp .eql T x y yt, ty, pos, after, g⟩ E (.bool (decide (i = j))) := fun a n hf w => by
  simp only [execOp, hf.ev h, hf.ev hy, Sem.run_bind, eqGuard_int, Result.andThen_ok, binOp]
  simp [Op.intCmp, bne, Bool.beq_eq_decide_eq]
theorem qw_eql_t {k : IntKind} {i j : Int} {yt : TypeId} (h : ev E x = some (.int k i)) (hy : ev E y = some (.int k j)) (hc : i = j) : QW P ⟨dst, .binOp .eql T x y yt, ty, pos, after, g⟩ E (.bool true) := by
  have := qw_eql (P := P) (dst := dst) (ty := ty) (pos := pos) (after := after) (g := g) (T := T) (yt := yt) h hy
  rwa [decide_eq_true hc] at this
theorem qw_eql_f {k : IntKind} {i j : Int} {yt : TypeId} (h : ev E x = some (.int k i)) (hy : ev E y = some (.int k j)) (hc : ¬ (i = j)) : QW P ⟨dst, .binOp .eql T x y yt, ty, pos, after, g⟩ E (.bool false) := by
  have := qw_eql (P := P) (dst := dst) (ty := ty) (pos := pos) (after := after) (g := g) (T := T) (yt := yt) h hy
  rwa [decide_eq_false hc] at this
theorem qw_neq {k : IntKind} {i j : Int} {yt : TypeId} (h : ev E x = some (.int k i)) (hy : ev E y = some (.int k j)) : QW P ⟨dst, .binOp .neq T x y yt, ty, pos, after, g⟩ E (.bool (decide (i ≠ j))) := fun a n hf w => by
  simp only [execOp, hf.ev h, hf.ev hy, Sem.run_bind, eqGuard_int, Result.andThen_ok, binOp]
  simp [Op.intCmp, bne, Bool.beq_eq_decide_eq]
theorem qw_neq_t {k : IntKind} {i j : Int} {yt : TypeId} (h : ev E x = some (.int k i)) (hy : ev E y = some (.int k j)) (hc : i ≠ j) : QW P ⟨dst, .binOp .neq T x y yt, ty, pos, after, g⟩ E (.bool true) := by
  have := qw_neq (P := P) (dst := dst) (ty := ty) (pos := pos) (after := after) (g := g) (T := T) (yt := yt) h hy
  rwa [decide_eq_true hc] at this
theorem qw_neq_f {k : IntKind} {i j : Int} {yt : TypeId} (h : ev E x = some (.int k i)) (hy : ev E y = some (.int k j)) (hc : ¬ (i ≠ j)) : QW P ⟨dst, .binOp .neq T x y yt, ty, pos, after, g⟩ E (.bool false) := by
  have := qw_neq (P := P) (dst := dst) (ty := ty) (pos := pos) (after := after) (g := g) (T := T) (yt := yt) h hy
  rwa [decide_eq_false hc] at this
theorem qw_lss {k : IntKind} {i j : Int} {yt : TypeId} (h : ev E x = some (.int k i)) (hy : ev E y = some (.int k j)) : QW P ⟨dst, .binOp .lss T x y yt, ty, pos, after, g⟩ E (.bool (decide (i < j))) := fun a n hf w => by
  simp only [execOp, hf.ev h, hf.ev hy, Sem.run_bind, eqGuard_int, Result.andThen_ok, binOp]
  simp [Op.intCmp, bne, Bool.beq_eq_decide_eq]
theorem qw_lss_t {k : IntKind} {i j : Int} {yt : TypeId} (h : ev E x = some (.int k i)) (hy : ev E y = some (.int k j)) (hc : i < j) : QW P ⟨dst, .binOp .lss T x y yt, ty, pos, after, g⟩ E (.bool true) := by
  have := qw_lss (P := P) (dst := dst) (ty := ty) (pos := pos) (after := after) (g := g) (T := T) (yt := yt) h hy
  rwa [decide_eq_true hc] at this
theorem qw_lss_f {k : IntKind} {i j : Int} {yt : TypeId} (h : ev E x = some (.int k i)) (hy : ev E y = some (.int k j)) (hc : ¬ (i < j)) : QW P ⟨dst, .binOp .lss T x y yt, ty, pos, after, g⟩ E (.bool false) := by
  have := qw_lss (P := P) (dst := dst) (ty := ty) (pos := pos) (after := after) (g := g) (T := T) (yt := yt) h hy
  rwa [decide_eq_false hc] at this
theorem qw_leq {k : IntKind} {i j : Int} {yt : TypeId} (h : ev E x = some (.int k i)) (hy : ev E y = some (.int k j)) : QW P ⟨dst, .binOp .leq T x y yt, ty, pos, after, g⟩ E (.bool (decide (i ≤ j))) := fun a n hf w => by
  simp only [execOp, hf.ev h, hf.ev hy, Sem.run_bind, eqGuard_int, Result.andThen_ok, binOp]
  simp [Op.intCmp, bne, Bool.beq_eq_decide_eq]
theorem qw_leq_t {k : IntKind} {i j : Int} {yt : TypeId} (h : ev E x = some (.int k i)) (hy : ev E y = some (.int k j)) (hc : i ≤ j) : QW P ⟨dst, .binOp .leq T x y yt, ty, pos, after, g⟩ E (.bool true) := by
  have := qw_leq (P := P) (dst := dst) (ty := ty) (pos := pos) (after := after) (g := g) (T := T) (yt := yt) h hy
  rwa [decide_eq_true hc] at this
theorem qw_leq_f {k : IntKind} {i j : Int} {yt : TypeId} (h : ev E x = some (.int k i)) (hy : ev E y = some (.int k j)) (hc : ¬ (i ≤ j)) : QW P ⟨dst, .binOp .leq T x y yt, ty, pos, after, g⟩ E (.bool false) := by
  have := qw_leq (P := P) (dst := dst) (ty := ty) (pos := pos) (after := after) (g := g) (T := T) (yt := yt) h hy
  rwa [decide_eq_false hc] at this
theorem qw_gtr {k : IntKind} {i j : Int} {yt : TypeId} (h : ev E x = some (.int k i)) (hy : ev E y = some (.int k j)) : QW P ⟨dst, .binOp .gtr T x y yt, ty, pos, after, g⟩ E (.bool (decide (j < i))) := fun a n hf w => by
  simp only [execOp, hf.ev h, hf.ev hy, Sem.run_bind, eqGuard_int, Result.andThen_ok, binOp]
  simp [Op.intCmp, bne, Bool.beq_eq_decide_eq]
theorem qw_gtr_t {k : IntKind} {i j : Int} {yt : TypeId} (h : ev E x = some (.int k i)) (hy : ev E y = some (.int k j)) (hc : j < i) : QW P ⟨dst, .binOp .gtr T x y yt, ty, pos, after, g⟩ E (.bool true) := by
  have := qw_gtr (P := P) (dst := dst) (ty := ty) (pos := pos) (after := after) (g := g) (T := T) (yt := yt) h hy
  rwa [decide_eq_true hc] at this
theorem qw_gtr_f {k : IntKind} {i j : Int} {yt : TypeId} (h : ev E x = some (.int k i)) (hy : ev E y = some (.int k j)) (hc : ¬ (j < i)) : QW P ⟨dst, .binOp .gtr T x y yt, ty, pos, after, g⟩ E (.bool false) := by
  have := qw_gtr (P := P) (dst := dst) (ty := ty) (pos := pos) (after := after) (g := g) (T := T) (yt := yt) h hy
  rwa [decide_eq_false hc] at this
theorem qw_geq {k : IntKind} {i j : Int} {yt : TypeId} (h : ev E x = some (.int k i)) (hy : ev E y = some (.int k j)) : QW P ⟨dst, .binOp .geq T x y yt, ty, pos, after, g⟩ E (.bool (decide (j ≤ i))) := fun a n hf w => by
  simp only [execOp, hf.ev h, hf.ev hy, Sem.run_bind, eqGuard_int, Result.andThen_ok, binOp]
  simp [Op.intCmp, bne, Bool.beq_eq_decide_eq]
theorem qw_geq_t {k : IntKind} {i j : Int} {yt : TypeId} (h : ev E x = some (.int k i)) (hy : ev E y = some (.int k j)) (hc : j ≤ i) : QW P ⟨dst, .binOp .geq T x y yt, ty, pos, after, g⟩ E (.bool true) := by
  have := qw_geq (P := P) (dst := dst) (ty := ty) (pos := pos) (after := after) (g := g) (T := T) (yt := yt) h hy
  rwa [decide_eq_true hc] at this
theorem qw_geq_f {k : IntKind} {i j : Int} {yt : TypeId} (h : ev E x = some (.int k i)) (hy : ev E y = some (.int k j)) (hc : ¬ (j ≤ i)) : QW P ⟨dst, .binOp .geq T x y yt, ty, pos, after, g⟩ E (.bool false) := by
  have := qw_geq (P := P) (dst := dst) (ty := ty) (pos := pos) (after := after) (g := g) (T := T) (yt := yt) h hy
  rwa [decide_eq_false hc] at this

theorem qw_len_slice {ar : List Operand} {at_ : Array TypeId} {p : Option Addr} {len cap : Nat} {t e : TypeId} [ht : TUn P t (.slice e)] (h : EvAll E ar [.slice p len cap]) (h2 : at_[0]? = some t) :
    QW P ⟨dst, .call { callee := .builtin .len, args := ar.toArray, argTypes := at_ }, ty, pos, after, g⟩ E (.int .i64 len) := fun a n hf w => by
  have := h.map hf
  simp [execOp, resolve, this, invoke, builtin, Builtin.len_, h2, run_underlying ht.ok, goInt]
theorem qw_len_str {ar : List Operand} {at_ : Array TypeId} {s : ByteArray} {t : TypeId} [ht : TUn P t .string] (h : EvAll E ar [.string s]) (h2 : at_[0]? = some t) :
    QW P ⟨dst, .call { callee := .builtin .len, args := ar.toArray, argTypes := at_ }, ty, pos, after, g⟩ E (.int .i64 s.size) := fun a n hf w => by
  have := h.map hf
  simp [execOp, resolve, this, invoke, builtin, Builtin.len_, h2, run_underlying ht.ok, goInt]
theorem qw_conv {k k' : IntKind} {i : Int} {src tgt : TypeId} {d : TypeDesc} [hs : TUn P src d] [ht : TUn P tgt (.int k)] (h : ev E x = some (.int k' i)) :
    QW P ⟨dst, .convert src tgt x, ty, pos, after, g⟩ E (.int k (k.wrap i)) := fun a n hf w => by
  simp [execOp, hf.ev h, convert, run_underlying ht.ok, run_underlying hs.ok, Conv.intToInt]
theorem qw_conv_in {k k' : IntKind} {i : Int} {src tgt : TypeId} {d : TypeDesc} [hs : TUn P src d] [ht : TUn P tgt (.int k)] (h : ev E x = some (.int k' i)) (hk : inK k i) :
    QW P ⟨dst, .convert src tgt x, ty, pos, after, g⟩ E (.int k i) := by
  have := qw_conv (P := P) (dst := dst) (ty := ty) (pos := pos) (after := after) (g := g) (src := src) (tgt := tgt) (d := d) h
  rwa [wrap_in hk] at this

/-! structs and arrays -/
inductive SetSeg : List Value → Nat → List Value → List Value → Prop
  | done {l : List Value} {o : Nat} : SetSeg l o [] l
  | take {c v : Value} {l l' vs : List Value} (h : SetSeg l 0 vs l') : SetSeg (c :: l) 0 (v :: vs) (v :: l')
  | skip {c : Value} {l l' vs : List Value} {o : Nat} (h : SetSeg l o vs l') : SetSeg (c :: l) (o + 1) vs (c :: l')

def putAt (cs : Array Value) (o : Nat) : List Value → Array Value
  | [] => cs
  | v :: vs => putAt (cs.setIfInBounds o v) (o + 1) vs

theorem putAt_size : ∀ (vs : List Value) (cs : Array Value) (o : Nat), (putAt cs o vs).size = cs.size
  | [], _, _ => rfl
  | v :: vs, cs, o => by simp [putAt, putAt_size vs]

theorem putAt_skip (c : Value) : ∀ (vs : List Value) (l : List Value) (o : Nat), putAt (c :: l).toArray (o + 1) vs = ((c :: (putAt l.toArray o vs).toList)).toArray
  | [], l, o => by simp [putAt]
  | v :: vs, l, o => by
    simp only [putAt, List.setIfInBounds_toArray, List.set_cons_succ]
    rw [putAt_skip c vs]

theorem SetSeg.putAt {l l' vs : List Value} {o : Nat} (h : SetSeg l o vs l') : Fw.putAt l.toArray o vs = l'.toArray ∧ o + vs.length ≤ l.length ∨ vs = [] ∧ l' = l := by
  induction h with
  | done => exact .inr ⟨rfl, rfl⟩
  | take h ih =>
    refine .inl ?_
    rename_i c v l l' vs
    simp only [Fw.putAt, List.setIfInBounds_toArray, List.set_cons_zero]
    rcases ih with ⟨ih, hl⟩ | ⟨rfl, rfl⟩
    · rw [putAt_skip, ih]
      exact ⟨by simp, by simp; omega⟩
    · exact ⟨rfl, by simp⟩
  | skip h ih =>
    rename_i c l l' vs o
    rcases ih with ⟨ih, hl⟩ | ⟨rfl, rfl⟩
    · refine .inl ⟨?_, by simp; omega⟩
      rw [putAt_skip, ih]
    · exact .inr ⟨rfl, rfl⟩

theorem foldl_putAt (o : Nat) : ∀ (vs : List Value) (k : Nat) (cs : Array Value), (vs.toArray.zipIdx k).foldl (fun cs (cj : Value × Nat) => cs.setIfInBounds (o + cj.2) cj.1) cs = putAt cs (o + k) vs := by
  intro vs k cs
  rw [← Array.foldl_toList]
  simp only [Array.toList_zipIdx]
  induction vs generalizing k cs with
  | nil => simp [putAt]
  | cons v vs ih =>
    simp only [List.zipIdx_cons, List.foldl_cons, putAt]
    rw [ih (k + 1)]
    rfl

/-- A value's cells. -/
inductive CellsOf : Value → List Value → Prop
  | agg {vs : List Value} : CellsOf (.agg vs.toArray) vs
  | one {v : Value} (h : v.oneCell' = true) : CellsOf v [v]

theorem CellsOf.eq {v : Value} {vs : List Value} (h : CellsOf v vs) : v.cells = vs.toArray := by
  cases h with
  | agg => rfl
  | one h => cases v <;> first | rfl | simp [Value.oneCell'] at h

inductive Fill (pl : List (Nat × Nat)) : List Value → List (Nat × Value) → List Value → Prop
  | nil {l : List Value} : Fill pl l [] l
  | cons {l l1 l2 vs : List Value} {i o sz : Nat} {v : Value} {ps : List (Nat × Value)} (hp : pl[i]? = some (o, sz)) (hc : CellsOf v vs) (hs : SetSeg l o vs l1) (hl : Nat.beq vs.length sz = true) (hnz : Nat.ble 1 sz = true) (ht : Fill pl l1 ps l2) : Fill pl l ((i, v) :: ps) l2

theorem Fill.fill {pl : List (Nat × Nat)} {l l2 : List Value} {ps : List (Nat × Value)} {place : Nat → Option (Nat × Nat)} (hpl : ∀ i o sz, pl[i]? = some (o, sz) → place i = some (o, sz)) (h : Fill pl l ps l2) : Instr.fill place l.toArray ps = some l2.toArray := by
  induction h with
  | nil => rfl
  | @cons l l1 l2 vs i o sz v ps hp hc hs hl hnz _ ih =>
    have hc' := hc.eq
    have hl' : vs.length = sz := by simpa using hl
    have hnz' : 1 ≤ sz := by simpa using hnz
    rcases hs.putAt with ⟨h1, h2⟩ | ⟨h1, _⟩
    · simp only [Instr.fill, hpl _ _ _ hp, hc', List.size_toArray]
      rw [if_neg (by simp; omega), foldl_putAt o vs 0 l.toArray]
      simp only [Nat.add_zero]
      rw [h1]; exact ih
    · subst h1; simp at hl'; omega

class TPlaces (P : Program) (T : Nat) (pl : outParam (List (Nat × Nat))) : Prop where
  ok : (match P.underlying T with
    | some (.struct fs) => (fs.toList.map fun f => (f.offset, (((P.info? f.type).map (·.size)).getD 1000000))) == pl
    | _ => false) = true

theorem TPlaces.run {pl : List (Nat × Nat)} [h : TPlaces P T pl] : ∃ fs, P.underlying T = some (.struct fs) ∧ ∀ w, (∀ p ∈ pl, p.2 ≠ 1000000) → ∃ ps : Array (Nat × Nat), (fs.mapM fun f => do pure (f.offset, ← sizeOf f.type) : Sem (Array (Nat × Nat))).run P w = .ok ps w ∧ ps.toList = pl := by
  have := h.ok
  split at this <;> try cases this
  rename_i fs hu
  refine ⟨fs, hu, fun w hne => ?_⟩
  have hpl : (fs.toList.map fun f => (f.offset, (((P.info? f.type).map (·.size)).getD 1000000))) = pl := by simpa using this
  subst hpl
  refine ⟨(fs.toList.map fun f => (f.offset, (((P.info? f.type).map (·.size)).getD 1000000))).toArray, ?_, by simp⟩
  rw [Array.mapM_eq_mapM_toList]
  have key : ∀ l : List Field, (∀ p ∈ l.map (fun f => (f.offset, (((P.info? f.type).map (·.size)).getD 1000000))), p.2 ≠ 1000000) →
      (l.mapM fun f => do pure (f.offset, ← sizeOf f.type) : Sem (List (Nat × Nat))).run P w = .ok (l.map fun f => (f.offset, (((P.info? f.type).map (·.size)).getD 1000000))) w := by
    intro l
    induction l with
    | nil => intro _; simp
    | cons f l ih =>
      intro hl
      have h1 := ih (fun p hp => hl p (by simp only [List.map_cons, List.mem_cons]; exact .inr hp))
      have h2 := hl _ (by simp only [List.map_cons, List.mem_cons]; exact .inl rfl)
      cases hi : P.info? f.type with
      | none => simp [hi] at h2
      | some i =>
        rw [List.mapM_cons]
        simp only [Sem.run_bind, run_sizeOf' hi, Result.andThen_ok, Sem.run_pure, h1]
        simp [hi]
  simp only [Sem.run_map, key fs.toList hne, Result.andThen_ok]

inductive EvParts (E : Env) : List (Nat × Operand) → List (Nat × Value) → Prop
  | nil : EvParts E [] []
  | cons {i : Nat} {x : Operand} {v : Value} {xs : List (Nat × Operand)} {vs : List (Nat × Value)} (h : ev E x = some v) (t : EvParts E xs vs) : EvParts E ((i, x) :: xs) ((i, v) :: vs)

theorem EvParts.map {n : Nat} {a : Act} {xs : List (Nat × Operand)} {vs : List (Nat × Value)} (h : EvParts E xs vs) (hf : Fr n E a) : xs.map (fun (p : Nat × Operand) => (p.1, a.eval p.2)) = vs := by
  induction h with
  | nil => rfl
  | cons h _ ih => simp [hf.ev h, ih]

theorem qw_build {pl : List (Nat × Nat)} {z out : List Value} {parts : List (Nat × Operand)} {ps : List (Nat × Value)} [TPlaces P T pl] [hz : TZero P T (.agg z.toArray)] (hp : EvParts E parts ps) (hne : (pl.all fun p => Nat.blt p.2 1000000) = true) (h : Fill pl z ps out) :
    QW P ⟨dst, .build T parts.toArray, ty, pos, after, g⟩ E (.agg out.toArray) := fun a n hf w => by
  obtain ⟨fs, hu, hr⟩ := TPlaces.run (P := P) (T := T) (pl := pl)
  obtain ⟨pa, hr1, hr2⟩ := hr w (fun p hp => by
    have := List.all_eq_true.1 hne p hp
    have h3 : p.2 < 1000000 := by simpa using this
    omega)
  have h1 := hp.map hf
  have h2 := h.fill (place := (pa[·]?)) (fun i o sz hi => by rw [← hr2] at hi; simpa using hi)
  have h3 : (parts.toArray.map fun (x : Nat × Operand) => match x with | (i, x) => (i, a.eval x)).toList = ps := by
    rw [← h1]; simp
  simp only [execOp, Instr.build, Sem.run_bind, run_zero, Result.andThen_ok, run_underlying hu, hr1, Value.cells, h3, h2, Sem.run_pure]

theorem qw_build_arr {len esz : Nat} {z out : List Value} {parts : List (Nat × Operand)} {ps : List (Nat × Value)} [ht : TArr P T len esz] [hz : TZero P T (.agg z.toArray)] (hp : EvParts E parts ps) (h : Fill ((List.range len).map fun i => (i * esz, esz)) z ps out) :
    QW P ⟨dst, .build T parts.toArray, ty, pos, after, g⟩ E (.agg out.toArray) := fun a n hf w => by
  obtain ⟨e, i, hu, hi, hs⟩ := ht.get
  have h1 := hp.map hf
  have h2 := h.fill (place := fun i => some (i * esz, esz)) (fun i o sz hi => by
    simp only [List.getElem?_map] at hi
    cases hr : (List.range len)[i]? with
    | none => simp [hr] at hi
    | some j =>
      obtain ⟨hlt, hj⟩ := List.getElem?_eq_some_iff.1 hr
      have : i = j := by simpa using hj
      subst this
      simp only [hr, Option.map_some, Option.some.injEq] at hi
      rw [hi])
  have h3 : (parts.toArray.map fun (x : Nat × Operand) => match x with | (i, x) => (i, a.eval x)).toList = ps := by
    rw [← h1]; simp
  simp only [execOp, Instr.build, Sem.run_bind, run_zero, Result.andThen_ok, run_underlying hu, run_sizeOf' hi, hs, Value.cells, h3, h2, Sem.run_pure]
end
end Fw
end Go.Proofs.YthmicniimofagaaGreat
