/-
  THE BASE OF THE WALKS (7): bits, shifts, division; a function of the library without a body. No condition.
-/
import Derived.Test.YthmicniimofagaaGreatFwG
namespace Go.Proofs.YthmicniimofagaaGreat
namespace Fw
set_option linter.unusedSimpArgs false
variable {P : Program} {n : Nat} {E : Env} {O : Out} {L : List Blk}
section
variable {dst : Option Tmp} {ty : TypeId} {pos : String} {after : Array Edge} {g : Option (Nat × Bool)} {x y z : Operand} {v u : Value} {T : Nat}

def andF (k : IntKind) (i j : Int) : Int := k.wrap (BitVec.ofInt k.bits i &&& BitVec.ofInt k.bits j).toNat
def orF (k : IntKind) (i j : Int) : Int := k.wrap (BitVec.ofInt k.bits i ||| BitVec.ofInt k.bits j).toNat
def xorF (k : IntKind) (i j : Int) : Int := k.wrap (BitVec.ofInt k.bits i ^^^ BitVec.ofInt k.bits j).toNat
def shrF (k : IntKind) (i j : Int) : Int := i.fdiv (2 ^ (min j.toNat k.bits))
def shlF (k : IntKind) (i j : Int) : Int := k.wrap (i * 2 ^ (min j.toNat k.bits))

theorem qw_and {k : IntKind} {i j : Int} {yt : TypeId} (h : ev E x = some (.int k i)) (hy : ev E y = some (.int k j)) : QW P ⟨dst, .binOp .and T x y yt, ty, pos, after, g⟩ E (.int k (andF k i j)) := fun a n hf w => by
  simp [execOp, hf.ev h, hf.ev hy, eqGuard_int, binOp, Op.intBits, andF]
theorem qw_or {k : IntKind} {i j : Int} {yt : TypeId} (h : ev E x = some (.int k i)) (hy : ev E y = some (.int k j)) : QW P ⟨dst, .binOp .or T x y yt, ty, pos, after, g⟩ E (.int k (orF k i j)) := fun a n hf w => by
  simp [execOp, hf.ev h, hf.ev hy, eqGuard_int, binOp, Op.intBits, orF]
theorem qw_xor {k : IntKind} {i j : Int} {yt : TypeId} (h : ev E x = some (.int k i)) (hy : ev E y = some (.int k j)) : QW P ⟨dst, .binOp .xor T x y yt, ty, pos, after, g⟩ E (.int k (xorF k i j)) := fun a n hf w => by
  simp [execOp, hf.ev h, hf.ev hy, eqGuard_int, binOp, Op.intBits, xorF]
theorem qw_shr {k k' : IntKind} {i j : Int} {yt : TypeId} (h : ev E x = some (.int k i)) (hy : ev E y = some (.int k' j)) (hj : 0 ≤ j) : QW P ⟨dst, .binOp .shr T x y yt, ty, pos, after, g⟩ E (.int k (shrF k i j)) := fun a n hf w => by
  have : ¬ j < 0 := by omega
  simp [execOp, hf.ev h, hf.ev hy, eqGuard_int, binOp, Op.shift, this, shrF]
theorem qw_shl {k k' : IntKind} {i j : Int} {yt : TypeId} (h : ev E x = some (.int k i)) (hy : ev E y = some (.int k' j)) (hj : 0 ≤ j) : QW P ⟨dst, .binOp .shl T x y yt, ty, pos, after, g⟩ E (.int k (shlF k i j)) := fun a n hf w => by
  have : ¬ j < 0 := by omega
  simp [execOp, hf.ev h, hf.ev hy, eqGuard_int, binOp, Op.shift, this, shlF]
theorem qw_quo {k : IntKind} {i j : Int} {yt : TypeId} (h : ev E x = some (.int k i)) (hy : ev E y = some (.int k j)) (hj : j ≠ 0) : QW P ⟨dst, .binOp .quo T x y yt, ty, pos, after, g⟩ E (.int k (k.wrap (i.tdiv j))) := fun a n hf w => by
  simp [execOp, hf.ev h, hf.ev hy, eqGuard_int, binOp, Op.intDiv, hj]
theorem qw_rem {k : IntKind} {i j : Int} {yt : TypeId} (h : ev E x = some (.int k i)) (hy : ev E y = some (.int k j)) (hj : j ≠ 0) : QW P ⟨dst, .binOp .rem T x y yt, ty, pos, after, g⟩ E (.int k (i.tmod j)) := fun a n hf w => by
  simp [execOp, hf.ev h, hf.ev hy, eqGuard_int, binOp, Op.intDiv, hj]
theorem qw_quo_pos {k : IntKind} {i j : Int} {yt : TypeId} (h : ev E x = some (.int k i)) (hy : ev E y = some (.int k j)) (hi : 0 ≤ i) (hj : 0 < j) (hk : inK k (i / j)) : QW P ⟨dst, .binOp .quo T x y yt, ty, pos, after, g⟩ E (.int k (i / j)) := by
  have := qw_quo (P := P) (dst := dst) (ty := ty) (pos := pos) (after := after) (g := g) (T := T) (yt := yt) h hy (by omega)
  rwa [Int.tdiv_eq_ediv_of_nonneg hi, wrap_in hk] at this
theorem qw_rem_pos {k : IntKind} {i j : Int} {yt : TypeId} (h : ev E x = some (.int k i)) (hy : ev E y = some (.int k j)) (hi : 0 ≤ i) (hj : 0 < j) : QW P ⟨dst, .binOp .rem T x y yt, ty, pos, after, g⟩ E (.int k (i % j)) := by
  have := qw_rem (P := P) (dst := dst) (ty := ty) (pos := pos) (after := after) (g := g) (T := T) (yt := yt) h hy (by omega)
  rwa [Int.tmod_eq_emod_of_nonneg hi] at this

theorem wrap_u64 (i : Int) : IntKind.wrap .u64 i = i % 18446744073709551616 := rfl
theorem wrap_u64_range (i : Int) : 0 ≤ IntKind.wrap .u64 i ∧ IntKind.wrap .u64 i ≤ 18446744073709551615 := by rw [wrap_u64]; omega

theorem qw_val {o : Oper} {v' : Value} (h : QW P o E v) (e : v = v') : QW P o E v' := e ▸ h
theorem qw_index_str {k : IntKind} {s : ByteArray} {i : Int} {c : UInt8} [ht : TUn P T .string] (h : ev E x = some (.string s)) (hy : ev E y = some (.int k i)) (h0 : 0 ≤ i) (hc : s[i.toNat]? = some c) : QW P ⟨dst, .index T x y, ty, pos, after, g⟩ E (.int .u8 c.toNat) := fun a n hf w => by
  simp [execOp, Instr.index, hf.ev h, hf.ev hy, asIntOf, run_underlying ht.ok, h0, hc]

/-- A function without a body. -/
theorem ev_ext {dst : Option Tmp} {f : FuncId} {x : Operand} {args : List Operand} {at_ : Array TypeId} {vs : List Value} (hx : ev E x = some (.func (.func f) #[] #[])) (ha : EvAll E args vs)
    (h : ∀ w, (callFunc f vs.toArray).run P w = .ok (.value v) w) : EV P ⟨dst, .call { callee := .value x, args := args.toArray, argTypes := at_ }, ty, pos, after, g⟩ n E O L fun u L' => u = v ∧ L' = L := by
  intro a w hf hh K Q hk
  have h1 := hf.ev hx
  have h2 := ha.map hf
  unfold Oper.wp
  have : (execOp a.eval ⟨dst, .call { callee := .value x, args := args.toArray, argTypes := at_ }, ty, pos, after, g⟩).run P w = .ok (.value v) w := by
    have := h w
    simp [execOp, resolve, h1, h2, Deferred.ofValue, invoke, this]
  rw [this]
  exact hk v w L hh ⟨rfl, rfl⟩
end
end Fw
end Go.Proofs.YthmicniimofagaaGreat
