/-
  THE BASE OF THE WALKS (N): bytes and strings; pointers that are nil; parts of slices. No condition beyond the sizes.
-/
import Derived.Test.YthmicniimofagaaGreatFwM
import Derived.Laws.IdiomStrings
import Derived.Sort.EncStr
namespace Go.Proofs.YthmicniimofagaaGreat
namespace Fw
open Go.Proofs (encStr)
set_option linter.unusedSimpArgs false
variable {P : Program} {n : Nat} {E : Env} {O : Out} {L : List Blk} {dst : Option Tmp} {T ty : TypeId} {pos : String} {after : Array Edge} {g : Option (Nat × Bool)} {x y z : Operand} {v : Value}

abbrev Bytes := List UInt8
def encB (b : UInt8) : List Value := [.int .u8 b.toNat]
def U32 (x : Int) : Value := .int .u32 x
def U8 (x : Int) : Value := .int .u8 x
def isU32 (x : Int) : Prop := 0 ≤ x ∧ x ≤ 4294967295
theorem encB_one : ∀ (x : UInt8), ∀ v ∈ encB x, v.oneCell' = true := by
  intro x v hv
  simp only [encB, List.mem_cons, List.not_mem_nil, or_false] at hv
  subst hv; rfl
theorem str_src {R : List Blk} {s : ByteArray} : SrcIs R 1 (.string s) s.data.toList.length (s.data.toList.flatMap encB) := by
  have h : SrcIs R 1 (.string s) s.size (s.data.toList.map fun b => .int .u8 b.toNat) := .str rfl
  rw [show encB = fun b => [Value.int .u8 b.toNat] from rfl, flat_one]
  have h2 : s.data.toList.length = s.size := Array.length_toList
  rw [h2]; exact h
theorem enc_src {R : List Blk} {bs : Bytes} : SrcIs R 1 (encStr bs) bs.length (bs.flatMap encB) := by
  have h := str_src (R := R) (s := ⟨bs.toArray⟩)
  simpa using h
theorem seg_b {A : Array Value} {o i j : Nat} {xs : Bytes} {b : UInt8} (h : Seg A o (xs.flatMap encB)) (hx : xs[i]? = some b) (hj : j = o + i) : A[j]? = some (.int .u8 b.toNat) := by
  subst hj
  exact h.get (i := i) (v := .int .u8 b.toNat) (by rw [show encB = fun b => [Value.int .u8 b.toNat] from rfl, flat_one, List.getElem?_map, hx]; rfl)

/-! ### a part of a list of one-celled elements -/
theorem seg_drop {α : Type} {enc : α → List Value} (hk : ∀ x, (enc x).length = 1) {A : Array Value} {o : Nat} {xs : List α} (h : Seg A o (xs.flatMap enc)) (i : Nat) : Seg A (o + i) ((xs.drop i).flatMap enc) := by
  have hl := flat_length hk xs
  intro j hj
  have hl2 := flat_length hk (xs.drop i)
  rw [hl2, List.length_drop] at hj
  have hd : ∀ (xs : List α) (i : Nat), (xs.flatMap enc).drop i = (xs.drop i).flatMap enc := by
    intro xs
    induction xs with
    | nil => intro i; simp
    | cons x xs ih =>
      intro i
      cases i with
      | zero => rfl
      | succ i =>
        obtain ⟨v, hv⟩ := List.length_eq_one_iff.1 (hk x)
        rw [List.flatMap_cons, hv, List.drop_succ_cons, ← ih i]
        rfl
  have := h (i + j) (by rw [hl]; omega)
  rw [← hd, List.getElem?_drop, ← Nat.add_assoc] at *
  exact this
theorem seg_take {α : Type} {enc : α → List Value} (hk : ∀ x, (enc x).length = 1) {A : Array Value} {o : Nat} {xs : List α} (h : Seg A o (xs.flatMap enc)) (i : Nat) : Seg A o ((xs.take i).flatMap enc) := by
  have hl := flat_length hk xs
  intro j hj
  rw [flat_length hk, List.length_take] at hj
  have hd : ∀ (xs : List α) (i : Nat), (xs.flatMap enc).take i = (xs.take i).flatMap enc := by
    intro xs
    induction xs with
    | nil => intro i; simp
    | cons x xs ih =>
      intro i
      cases i with
      | zero => rfl
      | succ i =>
        obtain ⟨v, hv⟩ := List.length_eq_one_iff.1 (hk x)
        rw [List.flatMap_cons, hv, List.take_succ_cons, List.flatMap_cons, ← ih i, hv]
        rfl
  rw [← hd, List.getElem?_take, if_pos (by omega)]
  exact h j (by rw [hl]; omega)

/-! ### pointers -/
theorem qw_eql_nil {e : TypeId} {yt : TypeId} [ht : TUn P T (.pointer e)] (h : ev E x = some (.pointer none)) (hy : ev E y = some (.pointer none)) : QW P ⟨dst, .binOp .eql T x y yt, ty, pos, after, g⟩ E (.bool true) := fun a n hf w => by
  have : ∀ d, (Op.equalIn (d + 1) T (.pointer none) (.pointer none)).run P w = .ok true w := fun d => by
    unfold Op.equalIn
    rw [Sem.run_bind, run_underlying ht.ok, Result.andThen_ok]
    rfl
  have h2 : (Op.equal T (.pointer none) (.pointer none)).run P w = .ok true w := this 9999
  have h3 : (eqGuard .eql T x y (.pointer none) (.pointer none)).run P w = .ok () w := by unfold eqGuard; simp
  simp only [execOp, hf.ev h, hf.ev hy, Sem.run_bind, h3, Result.andThen_ok, binOp, h2, Sem.run_pure]
theorem qw_eql_ptr {e : TypeId} {q : Addr} {yt : TypeId} [ht : TUn P T (.pointer e)] (h : ev E x = some (.pointer (some q))) (hy : ev E y = some (.pointer none)) : QW P ⟨dst, .binOp .eql T x y yt, ty, pos, after, g⟩ E (.bool false) := fun a n hf w => by
  have : ∀ d, (Op.equalIn (d + 1) T (.pointer (some q)) (.pointer none)).run P w = .ok false w := fun d => by
    unfold Op.equalIn
    rw [Sem.run_bind, run_underlying ht.ok, Result.andThen_ok]
    rfl
  have h2 : (Op.equal T (.pointer (some q)) (.pointer none)).run P w = .ok false w := this 9999
  have h3 : (eqGuard .eql T x y (.pointer (some q)) (.pointer none)).run P w = .ok () w := by unfold eqGuard; simp
  simp only [execOp, hf.ev h, hf.ev hy, Sem.run_bind, h3, Result.andThen_ok, binOp, h2, Sem.run_pure]
theorem qw_neq_nil {e : TypeId} {yt : TypeId} [ht : TUn P T (.pointer e)] (h : ev E x = some (.pointer none)) (hy : ev E y = some (.pointer none)) : QW P ⟨dst, .binOp .neq T x y yt, ty, pos, after, g⟩ E (.bool false) := fun a n hf w => by
  have : ∀ d, (Op.equalIn (d + 1) T (.pointer none) (.pointer none)).run P w = .ok true w := fun d => by
    unfold Op.equalIn
    rw [Sem.run_bind, run_underlying ht.ok, Result.andThen_ok]
    rfl
  have h2 : (Op.equal T (.pointer none) (.pointer none)).run P w = .ok true w := this 9999
  have h3 : (eqGuard .neq T x y (.pointer none) (.pointer none)).run P w = .ok () w := by unfold eqGuard; simp
  simp only [execOp, hf.ev h, hf.ev hy, Sem.run_bind, h3, Result.andThen_ok, binOp, h2, Sem.run_pure, Bool.not_true]
theorem qw_neq_ptr {e : TypeId} {q : Addr} {yt : TypeId} [ht : TUn P T (.pointer e)] (h : ev E x = some (.pointer (some q))) (hy : ev E y = some (.pointer none)) : QW P ⟨dst, .binOp .neq T x y yt, ty, pos, after, g⟩ E (.bool true) := fun a n hf w => by
  have : ∀ d, (Op.equalIn (d + 1) T (.pointer (some q)) (.pointer none)).run P w = .ok false w := fun d => by
    unfold Op.equalIn
    rw [Sem.run_bind, run_underlying ht.ok, Result.andThen_ok]
    rfl
  have h2 : (Op.equal T (.pointer (some q)) (.pointer none)).run P w = .ok false w := this 9999
  have h3 : (eqGuard .neq T x y (.pointer (some q)) (.pointer none)).run P w = .ok () w := by unfold eqGuard; simp
  simp only [execOp, hf.ev h, hf.ev hy, Sem.run_bind, h3, Result.andThen_ok, binOp, h2, Sem.run_pure, Bool.not_false]

/-! ### parts of slices -/
theorem qw_slice_lohi {e esz eby len cap b o : Nat} {k k' : IntKind} {i j : Int} [ht : TSl P T e esz eby] (h : ev E x = some (.slice (some ⟨b, o, none⟩) len cap)) (hy : ev E y = some (.int k i)) (hz : ev E z = some (.int k' j)) (h0 : 0 ≤ i) (h1 : i ≤ j) (h2 : j ≤ cap) :
    QW P ⟨dst, .slice T x (some y) (some z) none, ty, pos, after, g⟩ E (.slice (some (if cap = i.toNat then ⟨b, o, none⟩ else ⟨b, o + i.toNat * esz, none⟩)) (j.toNat - i.toNat) (cap - i.toNat)) := fun a n hf w => by
  obtain ⟨inf, t1, t2, t3, _⟩ := ht.get
  have h3 : 0 ≤ j := by omega
  have h4 : i ≤ max j 0 := by omega
  simp [execOp, Instr.sliceAt, Instr.slice, Instr.sliceBounds, Instr.sliceBound, asIntOf, hf.ev h, hf.ev hy, hf.ev hz, run_underlying t1, h0, h2, h3, h4, run_sizeOf' t2, t3]
  split <;> rfl

/-! ### bytes and strings -/
theorem qr_bytesToStr {T2 e : TypeId} {bs : Bytes} [h1 : TUn P T (.slice e)] [h2 : TUn P T2 .string] [h3 : TUn P e (.int .u8)] (h : ev E x = some v) (hr : RdW L encB v bs) :
    QR P ⟨dst, .convert T T2 x, ty, pos, after, g⟩ E O L (encStr bs) := fun a n hf w hh => by
  obtain ⟨p, cap, rfl, hR⟩ := hr
  have key : (convert T T2 (.slice p bs.length cap)).run P w = .ok (.string ⟨bs.toArray⟩) w := by
    by_cases h0 : bs.length = 0
    · have hb : bs = [] := List.eq_nil_of_length_eq_zero h0
      subst hb
      show (convert T T2 (.slice p 0 cap)).run P w = _
      rw [run_convert_bytes_string w T T2 e p 0 cap h1.ok h3.ok h2.ok]
      cases p with
      | none => rfl
      | some q => simp [Conv.bytesToString, loadCells, loadCellsFrom]; rfl
    · obtain ⟨b, o, A, t, fz, rfl, hm, hs⟩ := hR h0
      refine run_convert_bytes_back w T T2 e ⟨b, o, none⟩ cap bs h1.ok h3.ok h2.ok (fun j hj => ?_)
      have := seg_b hs (List.getElem?_eq_getElem hj) rfl
      have hc := hh.cell (off := o + j) hm this
      unfold Addr.add
      split
      · rename_i hj0
        have hj0 : j = 0 := by simpa using hj0
        subst hj0; exact hc
      · exact hc
  simp [execOp, hf.ev h, key]
theorem ev_strToBytes {T2 e : TypeId} {s : ByteArray} [h1 : TUn P T .string] [h2 : TUn P T2 (.slice e)] [h3 : TUn P e (.int .u8)] (h : ev E x = some (.string s)) :
    EV P ⟨dst, .convert T T2 x, ty, pos, after, g⟩ n E O L fun u L' => ∃ B, RdL B encB 1 u s.data.toList ∧ L' = B ++ L := fun a w hf hh K Q hk => by
  have hrun := run_bytes_of_string (P := P) w T T2 e s h1.ok h2.ok h3.ok
  unfold Oper.wp
  have : (execOp a.eval ⟨dst, .convert T T2 x, ty, pos, after, g⟩).run P w = .ok (.value (.slice (some ⟨w.heap.size, 0, none⟩) s.size (grownCap w s.size 0 e)))
      (w.drew.alloc (.cells (bytesRow s (grownCap w s.size 0 e)) e ((bytesRow s (grownCap w s.size 0 e)).size, (bytesRow s (grownCap w s.size 0 e)).size + 1))) := by
    simp only [execOp, hf.ev h, Sem.run_bind, hrun, Result.andThen_ok, Sem.run_pure]
  rw [this]
  have hlen : s.data.toList.length = s.size := Array.length_toList
  refine hk _ _ ((w.heap.size, .cells (bytesRow s (grownCap w s.size 0 e)) e ((bytesRow s (grownCap w s.size 0 e)).size, (bytesRow s (grownCap w s.size 0 e)).size + 1)) :: L) ((hh.drew).alloc _) ⟨[_], ⟨_, _, by rw [hlen], flat_length (enc := encB) (k := 1) (fun _ => rfl) _, ?_, ⟨fun q h => by cases h; rfl, fun h => by cases h⟩, fun _ => ⟨_, _, _, _, _, rfl, List.Mem.head _, ?_⟩⟩, rfl⟩
  · rw [hlen]
    exact grownCap_ge w s.size 0 e
  · rw [show encB = fun b => [Value.int .u8 b.toNat] from rfl, flat_one]
    intro j hj
    rw [List.length_map] at hj
    rw [Nat.zero_add, bytesRow_at s _ j (by simpa using hj), List.getElem?_map, List.getElem?_eq_getElem hj]
    simp
theorem qw_len_enc {t : TypeId} {ar : List Operand} {at_ : Array TypeId} {bs : Bytes} [ht : TUn P t .string] (ha : EvAll E ar [encStr bs]) (h2 : at_[0]? = some t) :
    QW P ⟨dst, .call { callee := .builtin .len, args := ar.toArray, argTypes := at_ }, ty, pos, after, g⟩ E (.int .i64 bs.length) := by
  have := qw_len_str (P := P) (E := E) (t := t) (dst := dst) (ty := ty) (pos := pos) (after := after) (g := g) (at_ := at_) (s := ⟨bs.toArray⟩) ha h2
  exact this

theorem qc_neq_bool {c d : Bool} {yt : TypeId} [ht : TUn P T .bool] (h : ev E x = some (.bool c)) (hy : ev E y = some (.bool d)) : QC P ⟨dst, .binOp .neq T x y yt, ty, pos, after, g⟩ E (c ≠ d) := by
  have hw := qw_neq_bool (P := P) (T := T) (dst := dst) (ty := ty) (pos := pos) (after := after) (g := g) (yt := yt) h hy
  refine ⟨fun hp => ?_, fun hp => ?_⟩
  · have : (!(c == d)) = true := by cases c <;> cases d <;> simp at *
    rwa [this] at hw
  · have : (!(c == d)) = false := by cases c <;> cases d <;> simp at *
    rwa [this] at hw
theorem qc_eql_bool {c d : Bool} {yt : TypeId} [ht : TUn P T .bool] (h : ev E x = some (.bool c)) (hy : ev E y = some (.bool d)) : QC P ⟨dst, .binOp .eql T x y yt, ty, pos, after, g⟩ E (c = d) := by
  have hw := qw_eql_bool (P := P) (T := T) (dst := dst) (ty := ty) (pos := pos) (after := after) (g := g) (yt := yt) h hy
  refine ⟨fun hp => ?_, fun hp => ?_⟩
  · have : (c == d) = true := by cases c <;> cases d <;> simp at *
    rwa [this] at hw
  · have : (c == d) = false := by cases c <;> cases d <;> simp at *
    rwa [this] at hw
theorem qw_min {ar : List Operand} {at_ : Array TypeId} {k k' : IntKind} {i j : Int} (ha : EvAll E ar [.int k i, .int k' j]) :
    QW P ⟨dst, .call { callee := .builtin .min, args := ar.toArray, argTypes := at_ }, ty, pos, after, g⟩ E (.int k (if j < i then j else i)) := fun a n hf w => by
  have := ha.map hf
  simp [execOp, resolve, this, invoke, builtin, Builtin.min_, Builtin.min2]
theorem qw_max {ar : List Operand} {at_ : Array TypeId} {k k' : IntKind} {i j : Int} (ha : EvAll E ar [.int k i, .int k' j]) :
    QW P ⟨dst, .call { callee := .builtin .max, args := ar.toArray, argTypes := at_ }, ty, pos, after, g⟩ E (.int k (if i < j then j else i)) := fun a n hf w => by
  have := ha.map hf
  simp [execOp, resolve, this, invoke, builtin, Builtin.max_, Builtin.max2]
/-- append of no zeros. -/
theorem ev_append0 {T2 e esz eby len cap : Nat} {at_ : Array TypeId} {p : Option Addr} {k k' : IntKind} {ar : List Operand} [ht : TSl P T e esz eby] [h2 : TUn P T2 (.int k)]
    (ha : EvAll E ar [.slice p len cap, .int k' 0]) (h0 : at_[0]? = some T) (h1 : at_[1]? = some T2) (hle : len ≤ cap) :
    EV P ⟨dst, .call { callee := .builtin .append, args := ar.toArray, argTypes := at_ }, ty, pos, after, g⟩ n E O L fun u L' => u = .slice p len cap ∧ L' = L := fun a w hf hh K Q hk => by
  obtain ⟨i, hu, hi, hsz, hb⟩ := ht.get
  have hargs := ha.map hf
  have hti : (typeInfo e).run P w = .ok i w := by simp [typeInfo, hi]
  have hrun : (Builtin.append_ at_ ty #[.slice p len cap, .int k' 0]).run P w = .ok (.slice p len cap) w := by
    unfold Builtin.append_
    simp only [h0, h1, List.getElem?_toArray, List.getElem?_cons_zero, List.getElem?_cons_succ, Sem.run_bind, run_underlying hu, Result.andThen_ok, run_sizeOf' hi, hsz, run_underlying h2.ok, Sem.run_pure, asInt, asIntOf, if_true, hti]
    have hw : IntKind.wrap .i64 0 = 0 := rfl
    cases p <;> simp [hw, hle, storeCells, Result.andThen, hti]
  unfold Oper.wp
  have : (execOp a.eval ⟨dst, .call { callee := .builtin .append, args := ar.toArray, argTypes := at_ }, ty, pos, after, g⟩).run P w = .ok (.value (.slice p len cap)) w := by
    have h3 : (ar.toArray.map a.eval) = #[.slice p len cap, .int k' 0] := by simp [hargs]
    simp [execOp, resolve, h3, invoke, builtin, hrun]
  rw [this]
  exact hk _ _ L hh ⟨rfl, rfl⟩
/-! ### numbers as bytes, the highest first -/
def byteAt (n : Int) (k : Nat) : UInt8 := UInt8.ofNat (n.toNat / 2 ^ (8 * k))
def numF (n : Int) : Nat → Bytes
  | 0 => []
  | k + 1 => byteAt n k :: numF n k
theorem numF_len (n : Int) : ∀ k, (numF n k).length = k
  | 0 => rfl
  | k + 1 => by rw [numF, List.length_cons, numF_len n k]
theorem wrap_u8 (i : Int) : IntKind.wrap .u8 i = i % 256 := rfl
theorem wrap_u8_nat (n : Nat) : IntKind.wrap .u8 n = (UInt8.ofNat n).toNat := by
  rw [wrap_u8, UInt8.toNat_ofNat']
  omega
theorem byte_shr {n : Int} (h : 0 ≤ n) {k : Nat} (hk : k < 8) : IntKind.wrap .u8 (shrF .u64 n (8 * (k : Int))) = ((byteAt n k).toNat : Int) := by
  unfold byteAt shrF
  rw [wrap_u8, UInt8.toNat_ofNat']
  have h1 : min (8 * (k : Int)).toNat (IntKind.bits .u64) = 8 * k := by
    show min (8 * (k : Int)).toNat 64 = 8 * k
    omega
  rw [h1]
  obtain ⟨m, rfl⟩ := Int.eq_ofNat_of_zero_le h
  rw [Int.fdiv_eq_ediv_of_nonneg _ (by exact Int.pow_nonneg (by decide))]
  rw [Int.toNat_natCast]
  have : ((m : Int) / 2 ^ (8 * k)) = ((m / 2 ^ (8 * k) : Nat) : Int) := by
    rw [Int.natCast_ediv, Int.natCast_pow]; rfl
  rw [this]
  omega
def beN (bs : Bytes) : Nat := bs.foldl (fun n b => n * 256 + b.toNat) 0
theorem beN_snoc (bs : Bytes) (b : UInt8) : beN (bs ++ [b]) = beN bs * 256 + b.toNat := by
  unfold beN; rw [List.foldl_append]; rfl
theorem beN_lt : ∀ (k : Nat) (bs : Bytes), bs.length = k → beN bs < 256 ^ k
  | 0, bs, h => by
    have : bs = [] := List.eq_nil_of_length_eq_zero h
    subst this; decide
  | k + 1, bs, h => by
    have hne : bs ≠ [] := fun h0 => by rw [h0] at h; simp at h
    have h1 := List.dropLast_concat_getLast hne
    rw [← h1, beN_snoc, Nat.pow_succ]
    have h2 := beN_lt k bs.dropLast (by rw [List.length_dropLast, h]; rfl)
    have h3 := (bs.getLast hne).toNat_lt
    omega
theorem shl_or {n : Nat} (hn : n < 2 ^ 56) {b : UInt8} : orF .u64 (shlF .u64 n 8) b.toNat = ((n * 256 + b.toNat : Nat) : Int) := by
  have hb := b.toNat_lt
  have h1 : shlF .u64 n 8 = ((n * 256 : Nat) : Int) := by
    unfold shlF
    rw [wrap_u64]
    have : min (8 : Int).toNat (IntKind.bits .u64) = 8 := rfl
    rw [this]
    omega
  rw [h1]
  unfold orF
  rw [wrap_u64]
  have h2 : (BitVec.ofInt (IntKind.bits .u64) ((n * 256 : Nat) : Int) ||| BitVec.ofInt (IntKind.bits .u64) (b.toNat : Int)).toNat = n * 256 + b.toNat := by
    rw [BitVec.toNat_or]
    have e1 : (BitVec.ofInt (IntKind.bits .u64) ((n * 256 : Nat) : Int)).toNat = n * 256 := by
      show (BitVec.ofInt 64 ((n * 256 : Nat) : Int)).toNat = _
      rw [BitVec.toNat_ofInt]; omega
    have e2 : (BitVec.ofInt (IntKind.bits .u64) (b.toNat : Int)).toNat = b.toNat := by
      show (BitVec.ofInt 64 (b.toNat : Int)).toNat = _
      rw [BitVec.toNat_ofInt]; omega
    rw [e1, e2]
    have := Nat.shiftLeft_add_eq_or_of_lt (i := 8) (b := b.toNat) (by omega) n
    rw [Nat.shiftLeft_eq] at this
    exact this.symm
  rw [h2]
  omega
end Fw
end Go.Proofs.YthmicniimofagaaGreat
