/-
  THE BASE OF THE WALKS (2): what is known of a frame and of memory; the moves through the code. No condition.
-/
import Derived.Test.YthmicniimofagaaGreatFwA
import Derived.Laws.Sem
import Derived.Laws.World
import Derived.KernelRfl
namespace Go.Proofs.YthmicniimofagaaGreat
namespace Fw

abbrev Blk := Nat × Obj
abbrev Env := List (Nat × Value)

structure Out where
  tape : Nat → Question → Nat
  os : Os
  output : Array (Nat × ByteArray)

def outOf (w : World) : Out := ⟨w.tape, w.os, w.output⟩

/-- These blocks are there, each another one. -/
structure Has (w : World) (O : Out) (L : List Blk) : Prop where
  all : ∀ b o, (b, o) ∈ L → w.heap[b]? = some o
  nd : (L.map Prod.fst).Nodup
  same : outOf w = O

def find : Env → Nat → Option Value
  | [], _ => none
  | (k, v) :: E, t => match Nat.beq k t with
    | true => some v
    | false => find E t

structure Fr (n : Nat) (E : Env) (a : Act) : Prop where
  size : a.tmps.size = n
  defers : a.defers = []
  get : ∀ t v, find E t = some v → a.tmps.getD t undef = v

def ev (E : Env) : Operand → Option Value
  | .tmp t => find E t
  | .const v => some v
  | .global g => some (.pointer (some ⟨g, 0, none⟩))
  | .func f => some (.func (.func f) #[] #[])

variable {P : Program} {n : Nat} {E : Env} {O : Out} {L : List Blk} {a : Act} {w : World}

theorem Fr.ev (h : Fr n E a) {x : Operand} {v : Value} (hx : ev E x = some v) : a.eval x = v := by
  cases x <;> simp only [Fw.ev, Option.some.injEq] at hx <;> first | exact h.get _ _ hx | exact hx

theorem Fr.put (h : Fr n E a) {d : Nat} (v : Value) (hd : Nat.blt d n = true) : Fr n ((d, v) :: E) (a.put (some d) v) where
  size := by simp [Act.put, h.size]
  defers := by simp [Act.put, h.defers]
  get := by
    intro t u hu
    have hlt : d < n := by simpa using hd
    have hsz := h.size
    unfold find at hu
    split at hu
    · rename_i he
      have : d = t := by simpa using he
      subst this
      simp at hu
      subst hu
      simp [Act.put, hsz, hlt]
    · rename_i he
      have hne : d ≠ t := fun e => by subst e; simp at he
      have := h.get _ _ hu
      simp only [Array.getD_eq_getD_getElem?] at this ⊢
      simpa [Act.put, Array.getElem?_setIfInBounds_ne hne] using this

theorem Fr.put_none (h : Fr n E a) (v : Value) : Fr n E (a.put none v) := h

/-- Less is known. -/
def Sub (E' E : Env) : Prop := ∀ t v, find E' t = some v → find E t = some v
theorem Sub.nil : Sub [] E := fun t v h => by simp [find] at h
theorem Sub.cons {E' : Env} {t : Nat} {v : Value} (h : find E t = some v) (hs : Sub E' E) : Sub ((t, v) :: E') E := by
  intro u x hx
  unfold find at hx
  split at hx
  · rename_i he
    have : t = u := by simpa using he
    subst this; simp at hx; subst hx; exact h
  · exact hs _ _ hx
theorem Sub.refl : Sub E E := fun _ _ h => h
theorem Fr.sub {E' : Env} (h : Fr n E a) (hs : Sub E' E) : Fr n E' a := ⟨h.size, h.defers, fun t v ht => h.get t v (hs t v ht)⟩

theorem Has.sub {L' : List Blk} (h : Has w O L) (hs : L'.Sublist L) : Has w O L' :=
  ⟨fun b o hm => h.all b o (hs.subset hm), h.nd.sublist (hs.map _), h.same⟩
theorem Has.perm {L' : List Blk} (h : Has w O L) (hp : L'.Perm L) : Has w O L' :=
  ⟨fun b o hm => h.all b o (hp.subset hm), (hp.map Prod.fst).nodup_iff.2 h.nd, h.same⟩
theorem Has.drew (h : Has w O L) : Has { w with drawn := w.drawn + 1 } O L := ⟨h.all, h.nd, h.same⟩

/-- Some of what is known, in another order. -/
def SubP (L' L : List Blk) : Prop := ∃ M : List Blk, L'.Perm M ∧ M.Sublist L
theorem SubP.of {L' L : List Blk} (h : L'.Sublist L) : SubP L' L := ⟨L', List.Perm.refl _, h⟩
theorem SubP.ofPerm {L' L : List Blk} (h : L'.Perm L) : SubP L' L := ⟨L, h, List.Sublist.refl _⟩
theorem Has.subp {L' : List Blk} (h : Has w O L) (hs : SubP L' L) : Has w O L' := by
  obtain ⟨M, h1, h2⟩ := hs
  exact (h.sub h2).perm h1

theorem Has.lt (h : Has w O L) {b : Nat} {o : Obj} (hm : (b, o) ∈ L) : b < w.heap.size := by
  have := h.all b o hm
  exact (Array.getElem?_eq_some_iff.1 this).1

theorem Has.alloc (h : Has w O L) (o : Obj) : Has { w with heap := w.heap.push o } O ((w.heap.size, o) :: L) where
  all := by
    intro b o' hm
    rcases List.mem_cons.1 hm with he | hm
    · cases he; simp
    · have h1 := h.all b o' hm
      have h2 := h.lt hm
      simp only [Array.getElem?_push]
      rw [if_neg (by omega)]
      exact h1
  nd := by
    simp only [List.map_cons, List.nodup_cons]
    refine ⟨fun hm => ?_, h.nd⟩
    obtain ⟨⟨b, o'⟩, hm, rfl⟩ := List.mem_map.1 hm
    exact absurd (h.lt hm) (Nat.lt_irrefl _)
  same := h.same

theorem Has.cell (h : Has w O L) {b off : Nat} {cs : Array Value} {t : TypeId} {fz : Nat × Nat} {v : Value} (hm : (b, Obj.cells cs t fz) ∈ L) (hv : cs[off]? = some v) :
    w.cell? ⟨b, off, none⟩ = some v := by
  simp [World.cell?, h.all _ _ hm, hv]

/-! ### the moves -/

def CG (P : Program) (c : Code) (Q : Exit → Act → World → Prop) (n : Nat) (E : Env) (O : Out) (L : List Blk) : Prop :=
  ∀ a w, Fr n E a → Has w O L → c.wp P Q a w
def QG (Q : Exit → Act → World → Prop) (e : Exit) (n : Nat) (E : Env) (O : Out) (L : List Blk) : Prop :=
  ∀ a w, Fr n E a → Has w O L → Q e a w

def wpL (P : Program) (ops : Array Oper) (Q : Exit → Act → World → Prop) : List Oper → Act → World → Prop
  | [], a, w => Q .normal a w
  | o :: rest, a, w => if Region.wanted o (yielded ops a.tmps) = true then o.wp P a w (wpL P ops Q rest) Q else wpL P ops Q rest (a.put o.dst undef) w

theorem wpOps_of_wpL {ops : Array Oper} {Q : Exit → Act → World → Prop} : ∀ (l : List Nat) (a : Act) (w : World), wpL P ops Q (l.filterMap (ops[·]?)) a w → wpOps P ops Q l a w
  | [], _, _, h => h
  | i :: rest, a, w, h => by
    rw [wpOps_cons]
    unfold wpOp
    cases hi : ops[i]? with
    | none => simp only [List.filterMap_cons, hi] at h; exact wpOps_of_wpL rest a w h
    | some o =>
      simp only [List.filterMap_cons, hi, wpL] at h
      split at h
      · rename_i hw; simp only [hw, if_true]; exact .inl (Oper.wp_mono (fun a w h => wpOps_of_wpL rest a w h) h)
      · rename_i hw; simp only [hw]; exact wpOps_of_wpL rest _ _ h

theorem range_filterMap (ops : Array Oper) : (List.range ops.size).filterMap (ops[·]?) = ops.toList := by
  obtain ⟨l⟩ := ops
  simp only [List.size_toArray, List.getElem?_toArray]
  apply List.ext_getElem?
  intro i
  induction l generalizing i with
  | nil => simp
  | cons x l ih =>
    rw [List.length_cons, List.range_succ_eq_map, List.filterMap_cons]
    simp only [List.getElem?_cons_zero, List.filterMap_map]
    cases i with
    | zero => simp
    | succ i => simpa [Function.comp_def] using ih i

def RG (P : Program) (ops : Array Oper) (Q : Exit → Act → World → Prop) (os : List Oper) (n : Nat) (E : Env) (O : Out) (L : List Blk) : Prop :=
  ∀ a w, Fr n E a → Has w O L → wpL P ops Q os a w
def DG (P : Program) (ops : Array Oper) (Q : Exit → Act → World → Prop) (scr : Scr) (B : List Blk) (n : Nat) (E : Env) (O : Out) (L : List Blk) : Prop :=
  ∀ a w, Fr n E a → Has w O L → Has w O B → wpScr P ops Q scr (fun w => Has w O B) a w

section moves
variable {Q : Exit → Act → World → Prop} {ops : Array Oper}

theorem cg_region {id : Nat} {l : List Oper} (h : RG P l.toArray Q l n E O L) : CG P (.region id l.toArray false) Q n E O L :=
  fun a w hf hh => wp_region (wpOps_of_wpL _ a w (by rw [range_filterMap]; exact h a w hf hh))

theorem cg_draw {id : Nat} (hm : P.follows .mixedOrders = true) (scr : Scr) (B : List Blk)
    (hchk : (Region.noSelect ops && decide (scr.size ≤ ops.size) && scrOK .any ops scr (Array.replicate ops.size false)) = true) (hB : SubP B L)
    (h : DG P ops (NoPan Q) scr B n E O L) : CG P (.region id ops true) Q n E O L :=
  fun a _ hf hh => wp_draw hm scr hchk (fun w => Has w O B) (hh.subp hB).drew (h a _ hf hh.drew (hh.subp hB).drew)

theorem cg_seq {x y : Code} (h : CG P x (Exit.then (y.wp P Q) Q) n E O L) : CG P (.seq x y) Q n E O L := fun a w hf hh => wp_seq (h a w hf hh)
theorem cg_skip (h : QG Q .normal n E O L) : CG P .skip Q n E O L := fun a w hf hh => wp_skip (h a w hf hh)
theorem cg_ret (h : QG Q .ret n E O L) : CG P .ret Q n E O L := fun a w hf hh => wp_ret (h a w hf hh)
theorem cg_exit {id : Nat} (h : QG Q (.exit id) n E O L) : CG P (.exit id) Q n E O L := fun a w hf hh => wp_exit (h a w hf hh)
theorem cg_label {id : Nat} (h : QG Q .normal n E O L) : CG P (.label id) Q n E O L := fun a w hf hh => wp_label (h a w hf hh)
theorem cg_true {c : Operand} {x y : Code} (hc : ev E c = some (.bool true)) (h : CG P x Q n E O L) : CG P (.cond c x y) Q n E O L :=
  fun a w hf hh => wp_cond_true (hf.ev hc) (h a w hf hh)
theorem cg_false {c : Operand} {x y : Code} (hc : ev E c = some (.bool false)) (h : CG P y Q n E O L) : CG P (.cond c x y) Q n E O L :=
  fun a w hf hh => wp_cond_false (hf.ev hc) (h a w hf hh)
theorem cg_block {id : Nat} {c : Code} (h : CG P c (Exit.inBlock id Q) n E O L) : CG P (.block id c) Q n E O L := fun a w hf hh => wp_block (h a w hf hh)

theorem qg_then {y : Code} (h : CG P y Q n E O L) : QG (Exit.then (y.wp P Q) Q) .normal n E O L := h
theorem qg_thenK {K : Act → World → Prop} (h : ∀ a w, Fr n E a → Has w O L → K a w) : QG (Exit.then K Q) .normal n E O L := h
theorem qg_then_ret {K : Act → World → Prop} (h : QG Q .ret n E O L) : QG (Exit.then K Q) .ret n E O L := h
theorem qg_then_exit {K : Act → World → Prop} {id : Nat} (h : QG Q (.exit id) n E O L) : QG (Exit.then K Q) (.exit id) n E O L := h
theorem qg_block {id : Nat} (h : QG Q .normal n E O L) : QG (Exit.inBlock id Q) .normal n E O L := h
theorem qg_block_ret {id : Nat} (h : QG Q .ret n E O L) : QG (Exit.inBlock id Q) .ret n E O L := h
theorem qg_block_here {id : Nat} (h : QG Q .normal n E O L) : QG (Exit.inBlock id Q) (.exit id) n E O L := fun a w hf hh => by
  simp only [Exit.inBlock, if_true]; exact h a w hf hh
theorem qg_block_on {id id' : Nat} (hne : Nat.beq id' id = false) (h : QG Q (.exit id') n E O L) : QG (Exit.inBlock id Q) (.exit id') n E O L := fun a w hf hh => by
  have : id' ≠ id := fun e => by subst e; simp at hne
  simp only [Exit.inBlock, this, if_false]; exact h a w hf hh

/-- The state that is known, with less of it. -/
theorem CG.weaken {c : Code} {E' : Env} {L' : List Blk} (hE : Sub E' E) (hL : L'.Sublist L) (h : CG P c Q n E' O L') : CG P c Q n E O L :=
  fun a w hf hh => h a w (hf.sub hE) (hh.sub hL)
theorem CG.perm {c : Code} {E' : Env} {L' : List Blk} (hE : Sub E' E) (hL : L'.Perm L) (h : CG P c Q n E' O L') : CG P c Q n E O L :=
  fun a w hf hh => h a w (hf.sub hE) (hh.perm hL)
theorem RG.perm {os : List Oper} {L' : List Blk} (hL : L'.Perm L) (h : RG P ops Q os n E O L') : RG P ops Q os n E O L :=
  fun a w hf hh => h a w hf (hh.perm hL)
theorem RG.sub {os : List Oper} {L' : List Blk} (hL : L'.Sublist L) (h : RG P ops Q os n E O L') : RG P ops Q os n E O L :=
  fun a w hf hh => h a w hf (hh.sub hL)
theorem QG.perm {e : Exit} {E' : Env} {L' : List Blk} (hE : Sub E' E) (hL : L'.Perm L) (h : QG Q e n E' O L') : QG Q e n E O L :=
  fun a w hf hh => h a w (hf.sub hE) (hh.perm hL)
theorem QG.weaken {e : Exit} {E' : Env} {L' : List Blk} (hE : Sub E' E) (hL : L'.Sublist L) (h : QG Q e n E' O L') : QG Q e n E O L :=
  fun a w hf hh => h a w (hf.sub hE) (hh.sub hL)

/-- A loop: what holds of the state at its head, and a measure. -/
theorem cg_loop {c : Code} (Inv : Env → List Blk → Nat → Prop) (E0 : Env) (L0 : List Blk) (m0 : Nat) (h0 : Inv E0 L0 m0) (hE : Sub E0 E) (hL : L0.Perm L)
    (round : ∀ E1 L1 m1, Inv E1 L1 m1 → CG P c (Exit.then (fun a w => ∃ E2 L2 m2, Inv E2 L2 m2 ∧ Fr n E2 a ∧ Has w O L2 ∧ m2 < m1) Q) n E1 O L1) : CG P (.loop c) Q n E O L := by
  intro a w hf hh b k cs
  have key : ∀ m E1 L1 a w, Inv E1 L1 m → Fr n E1 a → Has w O L1 →
      ∃ e a' w', Q e a' w' ∧ Arrives P (lone (b.at a (.code c :: .inLoop c :: k)) cs w) b k cs e a' w' := by
    intro m
    induction m using Nat.strongRecOn with
    | _ m ih =>
      intro E1 L1 a w hi hf hh
      obtain ⟨e, a₁, w₁, hq, harr⟩ := round E1 L1 m hi a w hf hh b (.inLoop c :: k) cs
      cases e with
      | normal =>
        obtain ⟨E2, L2, m2, hi2, hf', hh', hlt⟩ := hq
        obtain ⟨e₂, a₂, w₂, hq₂, harr₂⟩ := ih m2 hlt E2 L2 a₁ w₁ hi2 hf' hh'
        exact ⟨e₂, a₂, w₂, hq₂, .of_steps (Steps.trans harr (.one step_inLoop)) harr₂⟩
      | exit id => exact ⟨_, a₁, w₁, hq, .pass (x := .inLoop c) rfl (fun _ _ => .inl (by simp)) harr⟩
      | goto l => exact ⟨_, a₁, w₁, hq, .pass (x := .inLoop c) rfl (fun _ _ => .inl (by simp)) harr⟩
      | ret => exact ⟨_, a₁, w₁, hq, .pass (x := .inLoop c) rfl (fun _ _ => .inl (by simp)) harr⟩
      | panic ch => exact ⟨_, a₁, w₁, hq, .pass (x := .inLoop c) rfl (fun _ _ => .inl (by simp)) harr⟩
      | outgrown => exact ⟨_, a₁, w₁, hq, .pass (x := .inLoop c) rfl (fun _ _ => .inl (by simp)) harr⟩
  obtain ⟨e, a', w', hq, harr⟩ := key _ _ _ a w h0 (hf.sub hE) (hh.perm hL)
  exact ⟨e, a', w', hq, .of_steps (.one step_loop) harr⟩

/-- A round's end. -/
theorem qg_round {Inv : Env → List Blk → Nat → Prop} {m1 : Nat} (E2 : Env) (L2 : List Blk) (m2 : Nat) (hi : Inv E2 L2 m2) (hE : Sub E2 E) (hL : L2.Perm L) (hμ : m2 < m1) :
    QG (Exit.then (fun a w => ∃ E2 L2 m2, Inv E2 L2 m2 ∧ Fr n E2 a ∧ Has w O L2 ∧ m2 < m1) Q) .normal n E O L :=
  fun _ _ hf hh => ⟨E2, L2, m2, hi, hf.sub hE, hh.perm hL, hμ⟩
theorem qg_round_sub {Inv : Env → List Blk → Nat → Prop} {m1 : Nat} (E2 : Env) (L2 : List Blk) (m2 : Nat) (hi : Inv E2 L2 m2) (hE : Sub E2 E) (hL : L2.Sublist L) (hμ : m2 < m1) :
    QG (Exit.then (fun a w => ∃ E2 L2 m2, Inv E2 L2 m2 ∧ Fr n E2 a ∧ Has w O L2 ∧ m2 < m1) Q) .normal n E O L :=
  fun _ _ hf hh => ⟨E2, L2, m2, hi, hf.sub hE, hh.sub hL, hμ⟩

/-- Ways that meet again: what holds there. -/
theorem cg_cut {x y : Code} (Inv : Env → List Blk → Prop)
    (hx : CG P x (Exit.then (fun a w => ∃ E2 L2, Inv E2 L2 ∧ Fr n E2 a ∧ Has w O L2) Q) n E O L) (hy : ∀ E2 L2, Inv E2 L2 → CG P y Q n E2 O L2) : CG P (.seq x y) Q n E O L :=
  fun a w hf hh => wp_seq (wp_mono (hx a w hf hh) (fun e a w h => by
    cases e <;> first | exact h | (obtain ⟨E2, L2, hi, h1, h2⟩ := h; exact hy E2 L2 hi a w h1 h2)))
theorem qg_cut {Inv : Env → List Blk → Prop} (E2 : Env) (L2 : List Blk) (hi : Inv E2 L2) (hE : Sub E2 E) (hL : L2.Perm L) :
    QG (Exit.then (fun a w => ∃ E2 L2, Inv E2 L2 ∧ Fr n E2 a ∧ Has w O L2) Q) .normal n E O L := fun _ _ hf hh => ⟨E2, L2, hi, hf.sub hE, hh.perm hL⟩
theorem qg_cut_sub {Inv : Env → List Blk → Prop} (E2 : Env) (L2 : List Blk) (hi : Inv E2 L2) (hE : Sub E2 E) (hL : L2.Sublist L) :
    QG (Exit.then (fun a w => ∃ E2 L2, Inv E2 L2 ∧ Fr n E2 a ∧ Has w O L2) Q) .normal n E O L := fun _ _ hf hh => ⟨E2, L2, hi, hf.sub hE, hh.sub hL⟩
end moves

/-! ### the operations -/

/-- It yields v in this frame, in whatever world. -/
def QW (P : Program) (o : Oper) (E : Env) (v : Value) : Prop := ∀ (a : Act) (n : Nat), Fr n E a → ∀ w, (execOp a.eval o).run P w = .ok (.value v) w
/-- It yields v in this frame, where these blocks are. -/
def QR (P : Program) (o : Oper) (E : Env) (O : Out) (L : List Blk) (v : Value) : Prop :=
  ∀ (a : Act) (n : Nat), Fr n E a → ∀ w, Has w O L → (execOp a.eval o).run P w = .ok (.value v) w
/-- It steps to whatever 'next' speaks of. -/
def EV (P : Program) (o : Oper) (n : Nat) (E : Env) (O : Out) (L : List Blk) (next : Value → List Blk → Prop) : Prop :=
  ∀ (a : Act) (w : World), Fr n E a → Has w O L → ∀ (K : Act → World → Prop) (Q : Exit → Act → World → Prop),
    (∀ v w' L', Has w' O L' → next v L' → K (a.put o.dst v) w') → o.wp P a w K Q

theorem QW.qr {o : Oper} {v : Value} (h : QW P o E v) : QR P o E O L v := fun a n hf w _ => h a n hf w

section steps
variable {Q : Exit → Act → World → Prop} {ops : Array Oper} {o : Oper} {os : List Oper} {v : Value} {d : Nat}

def wantedNone (o : Oper) : Bool := match o.guard with
  | none => true
  | some _ => false

/-- The guard of o, in this frame. -/
def guardIs (ops : Array Oper) (E : Env) (o : Oper) (c : Bool) : Prop :=
  ∃ j b t v, o.guard = some (j, b) ∧ (ops[j]?).bind (·.dst) = some t ∧ find E t = some v ∧ ((∃ x, v = .bool x ∧ (x == b) = c) ∨ (v = undef ∧ c = false))

theorem guard_mk {c : Bool} {j : Nat} {b : Bool} {t : Nat} {x : Bool} (h1 : o.guard = some (j, b)) (h2 : (ops[j]?).bind (·.dst) = some t) (h3 : find E t = some (.bool x)) (h4 : (x == b) = c) :
    guardIs ops E o c := ⟨j, b, t, _, h1, h2, h3, .inl ⟨x, rfl, h4⟩⟩

/-- What the guard asks about was not done. -/
theorem guard_un {j : Nat} {b : Bool} {t : Nat} (h1 : o.guard = some (j, b)) (h2 : (ops[j]?).bind (·.dst) = some t) (h3 : find E t = some undef) :
    guardIs ops E o false := ⟨j, b, t, _, h1, h2, h3, .inr ⟨rfl, rfl⟩⟩

def Wn (ops : Array Oper) (E : Env) (o : Oper) : Prop := wantedNone o = true ∨ guardIs ops E o true

theorem wanted_guard {c : Bool} (h : guardIs ops E o c) (hf : Fr n E a) : Region.wanted o (yielded ops a.tmps) = c := by
  obtain ⟨j, b, t, v, hg, hj, ht, ⟨x, rfl, hc⟩ | ⟨rfl, rfl⟩⟩ := h
  rotate_left
  · have h1 := hf.get _ _ ht
    unfold Region.wanted yielded
    simp only [hg, hj, Option.bind_some]
    rw [Array.getD_eq_getD_getElem?] at h1
    cases hq : a.tmps[t]? with
    | none => simp
    | some u =>
      rw [hq] at h1
      have h2 : u = undef := by simpa using h1
      subst h2
      simp [undef]
  have h1 := hf.get _ _ ht
  have h2 : a.tmps[t]? = some (.bool x) := by
    rw [Array.getD_eq_getD_getElem?] at h1
    cases hq : a.tmps[t]? with
    | none => rw [hq] at h1; simp [undef] at h1
    | some u => rw [hq] at h1; simpa using h1
  unfold Region.wanted yielded
  simp only [hg, hj, Option.bind_some, h2]
  rw [← hc]
  simp

theorem Wn.wanted (h : Wn ops E o) (hf : Fr n E a) : Region.wanted o (yielded ops a.tmps) = true := by
  rcases h with h | h
  · unfold wantedNone at h
    unfold Region.wanted
    split at h <;> simp_all
  · exact wanted_guard h hf

theorem rg_nil (h : QG Q .normal n E O L) : RG P ops Q [] n E O L := h

theorem rg_q (hw : Wn ops E o) (hd : o.dst = some d) (hn : Nat.blt d n = true) (h : QR P o E O L v) (k : RG P ops Q os n ((d, v) :: E) O L) : RG P ops Q (o :: os) n E O L := by
  intro a w hf hh
  simp only [wpL, hw.wanted hf, if_true, Oper.wp, h a n hf w hh, Oper.upon, hd]
  exact k _ _ (hf.put v hn) hh

theorem rg_s (hg : guardIs ops E o false) (hd : o.dst = some d) (hn : Nat.blt d n = true) (k : RG P ops Q os n ((d, undef) :: E) O L) : RG P ops Q (o :: os) n E O L := by
  intro a w hf hh
  simp only [wpL, wanted_guard hg hf, Bool.false_eq_true, if_false, hd]
  exact k _ _ (hf.put undef hn) hh

theorem rg_s0 (hg : guardIs ops E o false) (hd : o.dst = none) (k : RG P ops Q os n E O L) : RG P ops Q (o :: os) n E O L := by
  intro a w hf hh
  simp only [wpL, wanted_guard hg hf, Bool.false_eq_true, if_false, hd]
  exact k _ _ hf hh

theorem rg_e {next : Value → List Blk → Prop} (hw : Wn ops E o) (hd : o.dst = some d) (hn : Nat.blt d n = true) (h : EV P o n E O L next)
    (k : ∀ v L', next v L' → RG P ops Q os n ((d, v) :: E) O L') : RG P ops Q (o :: os) n E O L := by
  intro a w hf hh
  simp only [wpL, hw.wanted hf, if_true]
  refine h a w hf hh _ _ fun v w' L' hh' hnext => ?_
  rw [hd]
  exact k v L' hnext _ _ (hf.put v hn) hh'

theorem rg_e0 {next : Value → List Blk → Prop} (hw : Wn ops E o) (hd : o.dst = none) (h : EV P o n E O L next)
    (k : ∀ v L', next v L' → RG P ops Q os n E O L') : RG P ops Q (o :: os) n E O L := by
  intro a w hf hh
  simp only [wpL, hw.wanted hf, if_true]
  refine h a w hf hh _ _ fun v w' L' hh' hnext => ?_
  rw [hd]
  exact k v L' hnext _ _ hf hh'

theorem dg_nil {B : List Blk} (h : QG Q .normal n E O L) : DG P ops (NoPan Q) .done B n E O L := fun a w hf hh _ => h a w hf hh

theorem dg_w {B : List Blk} {i : Nat} {k : Bool} {rest : Scr} (hi : ops[i]? = some o) (hq : quietB o = true) (hw : Wn ops E o) (hd : o.dst = some d) (hn : Nat.blt d n = true)
    (h : QW P o E v) (c : DG P ops Q rest B n ((d, v) :: E) O L) : DG P ops Q (.op i k rest) B n E O L := by
  intro a w hf hh hB
  simp only [wpScr, hi, hq, if_true]
  refine ⟨v, .inr (.inl ⟨hw.wanted hf, h a n hf⟩), ?_⟩
  rw [hd]
  exact c _ _ (hf.put v hn) hh hB

theorem dg_r {B : List Blk} {i : Nat} {k : Bool} {rest : Scr} (hi : ops[i]? = some o) (hq : quietB o = true) (hR : isR o = true) (hw : Wn ops E o) (hd : o.dst = some d) (hn : Nat.blt d n = true)
    (h : QR P o E O B v) (c : DG P ops Q rest B n ((d, v) :: E) O L) : DG P ops Q (.op i k rest) B n E O L := by
  intro a w hf hh hB
  simp only [wpScr, hi, hq, if_true]
  refine ⟨v, .inl ⟨hR, .inl ⟨hw.wanted hf, fun w' hw' => h a n hf w' hw'⟩⟩, ?_⟩
  rw [hd]
  exact c _ _ (hf.put v hn) hh hB

theorem dg_s {B : List Blk} {i : Nat} {k : Bool} {rest : Scr} (hi : ops[i]? = some o) (hq : quietB o = true) (hg : guardIs ops E o false) (hd : o.dst = some d) (hn : Nat.blt d n = true)
    (c : DG P ops Q rest B n ((d, undef) :: E) O L) : DG P ops Q (.op i k rest) B n E O L := by
  intro a w hf hh hB
  simp only [wpScr, hi, hq, if_true]
  refine ⟨undef, .inr (.inr ⟨wanted_guard hg hf, rfl⟩), ?_⟩
  rw [hd]
  exact c _ _ (hf.put undef hn) hh hB

theorem dg_se {B : List Blk} {i : Nat} {k : Bool} {rest : Scr} (hi : ops[i]? = some o) (hq : quietB o = false) (hg : guardIs ops E o false) (hd : o.dst = some d) (hn : Nat.blt d n = true)
    (c : DG P ops Q rest B n ((d, undef) :: E) O L) : DG P ops Q (.op i k rest) B n E O L := by
  intro a w hf hh hB
  simp only [wpScr, hi, hq, wanted_guard hg hf, Bool.false_eq_true, if_false, hd]
  exact c _ _ (hf.put undef hn) hh hB

theorem dg_e {B : List Blk} {i : Nat} {k : Bool} {rest : Scr} {next : Value → List Blk → Prop} (hi : ops[i]? = some o) (hq : quietB o = false) (hw : Wn ops E o) (hd : o.dst = some d) (hn : Nat.blt d n = true)
    (h : EV P o n E O L next) (c : ∀ v L', next v L' → SubP B L' ∧ DG P ops Q rest B n ((d, v) :: E) O L') : DG P ops Q (.op i k rest) B n E O L := by
  intro a w hf hh hB
  simp only [wpScr, hi, hq, hw.wanted hf, Bool.false_eq_true, if_false, if_true]
  refine h a w hf hh _ _ fun v w' L' hh' hnext => ?_
  obtain ⟨hs, hc⟩ := c v L' hnext
  refine ⟨_, hh'.subp hs, fun _ _ h => h, ?_⟩
  rw [hd]
  exact hc _ _ (hf.put v hn) hh' (hh'.subp hs)

theorem dg_e0 {B : List Blk} {i : Nat} {k : Bool} {rest : Scr} {next : Value → List Blk → Prop} (hi : ops[i]? = some o) (hq : quietB o = false) (hw : Wn ops E o) (hd : o.dst = none)
    (h : EV P o n E O L next) (c : ∀ v L', next v L' → SubP B L' ∧ DG P ops Q rest B n E O L') : DG P ops Q (.op i k rest) B n E O L := by
  intro a w hf hh hB
  simp only [wpScr, hi, hq, hw.wanted hf, Bool.false_eq_true, if_false, if_true]
  refine h a w hf hh _ _ fun v w' L' hh' hnext => ?_
  obtain ⟨hs, hc⟩ := c v L' hnext
  refine ⟨_, hh'.subp hs, fun _ _ h => h, ?_⟩
  rw [hd]
  exact hc _ _ hf hh' (hh'.subp hs)

/-- Behind this operation nothing that was read need be kept. -/
theorem dg_f {B B' : List Blk} {i : Nat} {rest : Scr} {next : Value → List Blk → Prop} (hi : ops[i]? = some o) (hq : quietB o = false) (hw : Wn ops E o) (hd : o.dst = some d) (hn : Nat.blt d n = true)
    (h : EV P o n E O L next) (c : ∀ v L', next v L' → SubP B' L' ∧ DG P ops Q rest B' n ((d, v) :: E) O L') : DG P ops Q (.op i false rest) B n E O L := by
  intro a w hf hh hB
  simp only [wpScr, hi, hq, hw.wanted hf, Bool.false_eq_true, if_false, if_true]
  refine h a w hf hh _ _ fun v w' L' hh' hnext => ?_
  obtain ⟨hs, hc⟩ := c v L' hnext
  refine ⟨fun w => Has w O B', hh'.subp hs, fun h => (by cases h), ?_⟩
  rw [hd]
  exact hc _ _ (hf.put v hn) hh' (hh'.subp hs)

theorem dg_f0 {B B' : List Blk} {i : Nat} {rest : Scr} {next : Value → List Blk → Prop} (hi : ops[i]? = some o) (hq : quietB o = false) (hw : Wn ops E o) (hd : o.dst = none)
    (h : EV P o n E O L next) (c : ∀ v L', next v L' → SubP B' L' ∧ DG P ops Q rest B' n E O L') : DG P ops Q (.op i false rest) B n E O L := by
  intro a w hf hh hB
  simp only [wpScr, hi, hq, hw.wanted hf, Bool.false_eq_true, if_false, if_true]
  refine h a w hf hh _ _ fun v w' L' hh' hnext => ?_
  obtain ⟨hs, hc⟩ := c v L' hnext
  refine ⟨fun w => Has w O B', hh'.subp hs, fun h => (by cases h), ?_⟩
  rw [hd]
  exact hc _ _ hf hh' (hh'.subp hs)
theorem dg_g {B : List Blk} {i : Nat} {rest : Scr} {next : Value → List Blk → Prop} (hi : ops[i]? = some o) (hq : quietB o = false) (hw : Wn ops E o) (hd : o.dst = some d) (hn : Nat.blt d n = true)
    (h : EV P o n E O L next) (c : ∀ v L', next v L' → DG P ops Q rest L' n ((d, v) :: E) O L') : DG P ops Q (.op i false rest) B n E O L := by
  intro a w hf hh hB
  simp only [wpScr, hi, hq, hw.wanted hf, Bool.false_eq_true, if_false, if_true]
  refine h a w hf hh _ _ fun v w' L' hh' hnext => ?_
  have hc := c v L' hnext
  refine ⟨fun w => Has w O L', hh', fun h => (by cases h), ?_⟩
  rw [hd]
  exact hc _ _ (hf.put v hn) hh' hh'
theorem dg_g0 {B : List Blk} {i : Nat} {rest : Scr} {next : Value → List Blk → Prop} (hi : ops[i]? = some o) (hq : quietB o = false) (hw : Wn ops E o) (hd : o.dst = none)
    (h : EV P o n E O L next) (c : ∀ v L', next v L' → DG P ops Q rest L' n E O L') : DG P ops Q (.op i false rest) B n E O L := by
  intro a w hf hh hB
  simp only [wpScr, hi, hq, hw.wanted hf, Bool.false_eq_true, if_false, if_true]
  refine h a w hf hh _ _ fun v w' L' hh' hnext => ?_
  have hc := c v L' hnext
  refine ⟨fun w => Has w O L', hh', fun h => (by cases h), ?_⟩
  rw [hd]
  exact hc _ _ hf hh' hh'
/-- An operation that is looked upon as one that turns the world. -/
theorem dgx_e {B : List Blk} {i : Nat} {k : Bool} {rest : Scr} {next : Value → List Blk → Prop} (hi : ops[i]? = some o) (hw : Wn ops E o) (hd : o.dst = some d) (hn : Nat.blt d n = true)
    (h : EV P o n E O L next) (c : ∀ v L', next v L' → SubP B L' ∧ DG P ops Q rest B n ((d, v) :: E) O L') : DG P ops Q (.eff i k rest) B n E O L := by
  intro a w hf hh hB
  simp only [wpScr, hi, hw.wanted hf, if_true]
  refine h a w hf hh _ _ fun v w' L' hh' hnext => ?_
  obtain ⟨hs, hc⟩ := c v L' hnext
  refine ⟨_, hh'.subp hs, fun _ _ h => h, ?_⟩
  rw [hd]
  exact hc _ _ (hf.put v hn) hh' (hh'.subp hs)
theorem dgx_g {B : List Blk} {i : Nat} {rest : Scr} {next : Value → List Blk → Prop} (hi : ops[i]? = some o) (hw : Wn ops E o) (hd : o.dst = some d) (hn : Nat.blt d n = true)
    (h : EV P o n E O L next) (c : ∀ v L', next v L' → DG P ops Q rest L' n ((d, v) :: E) O L') : DG P ops Q (.eff i false rest) B n E O L := by
  intro a w hf hh hB
  simp only [wpScr, hi, hw.wanted hf, if_true]
  refine h a w hf hh _ _ fun v w' L' hh' hnext => ?_
  have hc := c v L' hnext
  refine ⟨fun w => Has w O L', hh', fun h => (by cases h), ?_⟩
  rw [hd]
  exact hc _ _ (hf.put v hn) hh' hh'
theorem dgx_s {B : List Blk} {i : Nat} {k : Bool} {rest : Scr} (hi : ops[i]? = some o) (hg : guardIs ops E o false) (hd : o.dst = some d) (hn : Nat.blt d n = true)
    (c : DG P ops Q rest B n ((d, undef) :: E) O L) : DG P ops Q (.eff i k rest) B n E O L := by
  intro a w hf hh hB
  simp only [wpScr, hi, wanted_guard hg hf, Bool.false_eq_true, if_false, hd]
  exact c _ _ (hf.put undef hn) hh hB
/-- Two may come up. -/
theorem dg_two {B : List Blk} {i j : Nat} {ki kj : Bool} {ri rj : Scr} (hi : (ops[i]?).map quietB = some false) (hj : (ops[j]?).map quietB = some false) (h1 : DG P ops Q (.op i ki ri) B n E O L) (h2 : DG P ops Q (.op j kj rj) B n E O L) : DG P ops Q (.two i ki ri j kj rj) B n E O L := by
  intro a w hf hh hB
  have g1 := h1 a w hf hh hB
  have g2 := h2 a w hf hh hB
  simp only [wpScr] at g1 g2 ⊢
  refine ⟨?_, ?_⟩
  · cases hx : ops[i]? with
    | none => simp [hx] at hi
    | some o =>
      have hq : quietB o = false := by simpa [hx] using hi
      simp only [hx, hq, Bool.false_eq_true, if_false] at g1
      exact ⟨hq, g1⟩
  · cases hx : ops[j]? with
    | none => simp [hx] at hj
    | some o =>
      have hq : quietB o = false := by simpa [hx] using hj
      simp only [hx, hq, Bool.false_eq_true, if_false] at g2
      exact ⟨hq, g2⟩
end steps

/-! ### calls -/

/-- The call returns, and R speaks of what, and of the blocks then known. -/
def CA (P : Program) (f : FuncId) (args : List Value) (O : Out) (L : List Blk) (R : Value → List Blk → Prop) : Prop :=
  ∀ w, Has w O L → Calls P f args.toArray w fun e w' => ∃ v L', e = .returned v ∧ R v L' ∧ Has w' O L'

theorem CA.mono {f : FuncId} {args : List Value} {R R' : Value → List Blk → Prop} (h : CA P f args O L R) (hr : ∀ v L', R v L' → R' v L') : CA P f args O L R' :=
  fun w hh => (h w hh).mono fun _ _ ⟨v, L', he, hR, hH⟩ => ⟨v, L', he, hr v L' hR, hH⟩

/-- What stands in memory can be said in another order. -/
theorem CA.pre {f : FuncId} {args : List Value} {R : Value → List Blk → Prop} {L0 : List Blk} (h : CA P f args O L0 R) (hs : ∀ w, Has w O L → Has w O L0) : CA P f args O L R :=
  fun w hh => h w (hs w hh)

inductive ResIs (P : Program) (E : Env) (O : Out) (L : List Blk) : ResultVar → Value → Prop
  | tmp {t : Tmp} {v : Value} (h : find E t = some v) : ResIs P E O L (.tmp t) v
  | cell {t : Tmp} {ty : TypeId} {a : Addr} {v : Value} (h : find E t = some (.pointer (some a))) (hl : ∀ w, Has w O L → (loadVar ty a).run P w = .ok v w) : ResIs P E O L (.cell t ty) v

inductive ResAll (P : Program) (E : Env) (O : Out) (L : List Blk) : List ResultVar → List Value → Prop
  | nil : ResAll P E O L [] []
  | cons {r : ResultVar} {v : Value} {rs : List ResultVar} {vs : List Value} (h : ResIs P E O L r v) (t : ResAll P E O L rs vs) : ResAll P E O L (r :: rs) (v :: vs)

def readRes (tmps : Array Value) (r : ResultVar) : Sem Value := match r with
  | .tmp t => pure (tmps.getD t undef)
  | .cell x t => do loadVar t (← asAddr (tmps.getD x undef))

theorem ResIs.run {r : ResultVar} {v : Value} (h : ResIs P E O L r v) (hf : Fr n E a) (hh : Has w O L) : (readRes a.tmps r).run P w = .ok v w := by
  cases h with
  | tmp ht => simp only [readRes, hf.get _ _ ht]; rfl
  | cell ht hl => unfold readRes; simp only [hf.get _ _ ht, asAddr]; exact hl w hh

theorem ResAll.run {rs : List ResultVar} {vs : List Value} (h : ResAll P E O L rs vs) (hf : Fr n E a) (hh : Has w O L) :
    (rs.mapM (readRes a.tmps)).run P w = .ok vs w := by
  induction h with
  | nil => simp
  | cons hr _ ih =>
    rw [List.mapM_cons]
    simp only [Sem.run_bind, hr.run hf hh, ih, Result.andThen_ok, Sem.run_pure]

def one (vs : List Value) : Value := match vs with
  | [v] => v
  | vs => .tuple vs.toArray

theorem results_eq (fn : Func) (tmps : Array Value) : results fn tmps = (do
    let vs ← fn.results.mapM (readRes tmps)
    pure (if h : vs.size = 1 then vs[0] else .tuple vs)) := by
  unfold results
  congr 1
theorem results_run {fn : Func} {vs : List Value} (h : ResAll P E O L fn.results.toList vs) (hf : Fr n E a) (hh : Has w O L) : (results fn a.tmps).run P w = .ok (one vs) w := by
  have h1 := h.run hf hh
  rw [results_eq, Sem.run_bind, Array.mapM_eq_mapM_toList]
  simp only [Sem.run_map, h1, Result.andThen_ok, Sem.run_pure]
  unfold one
  rcases vs with _ | ⟨v, _ | ⟨u, vs⟩⟩ <;> simp

/-- The function's own end. -/
theorem qg_end {fn : Func} {R : Value → List Blk → Prop} {e : Exit} (he : e = .ret ∨ e = .normal) (vs : List Value) (hr : ResAll P E O L fn.results.toList vs) (L' : List Blk) (hL : L'.Sublist L) (h : R (one vs) L') :
    QG (bodyPost P fn fun e w' => ∃ v L', e = .returned v ∧ R v L' ∧ Has w' O L') e n E O L := by
  intro a w hf hh
  rcases he with rfl | rfl <;> exact ⟨hf.defers, _, results_run hr hf hh, _, L', rfl, h, hh.sub hL⟩

theorem qg_end_perm {fn : Func} {R : Value → List Blk → Prop} {e : Exit} (he : e = .ret ∨ e = .normal) (vs : List Value) (hr : ResAll P E O L fn.results.toList vs) (L' : List Blk) (hL : L'.Perm L) (h : R (one vs) L') :
    QG (bodyPost P fn fun e w' => ∃ v L', e = .returned v ∧ R v L' ∧ Has w' O L') e n E O L := by
  intro a w hf hh
  rcases he with rfl | rfl <;> exact ⟨hf.defers, _, results_run hr hf hh, _, L', rfl, h, hh.perm hL⟩

theorem qg_end_sp {fn : Func} {R : Value → List Blk → Prop} {e : Exit} (he : e = .ret ∨ e = .normal) (vs : List Value) (hr : ResAll P E O L fn.results.toList vs) (L' : List Blk) (hL : SubP L' L) (h : R (one vs) L') :
    QG (bodyPost P fn fun e w' => ∃ v L', e = .returned v ∧ R v L' ∧ Has w' O L') e n E O L := by
  intro a w hf hh
  rcases he with rfl | rfl <;> exact ⟨hf.defers, _, results_run hr hf hh, _, L', rfl, h, hh.subp hL⟩
theorem CG.subp {Q : Exit → Act → World → Prop} {c : Code} {E' : Env} {L' : List Blk} (hE : Sub E' E) (hL : SubP L' L) (h : CG P c Q n E' O L') : CG P c Q n E O L :=
  fun a w hf hh => h a w (hf.sub hE) (hh.subp hL)
theorem RG.subp {Q : Exit → Act → World → Prop} {ops : Array Oper} {os : List Oper} {L' : List Blk} (hL : SubP L' L) (h : RG P ops Q os n E O L') : RG P ops Q os n E O L :=
  fun a w hf hh => h a w hf (hh.subp hL)
theorem qg_round_sp {Q : Exit → Act → World → Prop} {Inv : Env → List Blk → Nat → Prop} {m1 : Nat} (E2 : Env) (L2 : List Blk) (m2 : Nat) (hi : Inv E2 L2 m2) (hE : Sub E2 E) (hL : SubP L2 L) (hμ : m2 < m1) :
    QG (Exit.then (fun a w => ∃ E2 L2 m2, Inv E2 L2 m2 ∧ Fr n E2 a ∧ Has w O L2 ∧ m2 < m1) Q) .normal n E O L :=
  fun _ _ hf hh => ⟨E2, L2, m2, hi, hf.sub hE, hh.subp hL, hμ⟩
theorem qg_cut_sp {Q : Exit → Act → World → Prop} {Inv : Env → List Blk → Prop} (E2 : Env) (L2 : List Blk) (hi : Inv E2 L2) (hE : Sub E2 E) (hL : SubP L2 L) :
    QG (Exit.then (fun a w => ∃ E2 L2, Inv E2 L2 ∧ Fr n E2 a ∧ Has w O L2) Q) .normal n E O L := fun _ _ hf hh => ⟨E2, L2, hi, hf.sub hE, hh.subp hL⟩

/-! segments -/
theorem _root_.List.Sublist.subperm_like {α : Type} {l m n : List α} (h : l.Sublist m) (hp : m.Perm n) : ∃ k, l.Perm k ∧ k.Sublist n := by
  induction hp generalizing l with
  | nil => exact ⟨l, List.Perm.refl _, h⟩
  | @cons x m n _ ih =>
    cases h with
    | cons _ h =>
      obtain ⟨k, h1, h2⟩ := ih h
      exact ⟨k, h1, h2.cons _⟩
    | cons_cons _ h =>
      obtain ⟨k, h1, h2⟩ := ih h
      exact ⟨x :: k, h1.cons x, h2.cons_cons x⟩
  | swap x y m =>
    cases h with
    | cons _ h =>
      cases h with
      | cons _ h => exact ⟨_, List.Perm.refl _, (h.cons _).cons _⟩
      | cons_cons _ h => exact ⟨_, List.Perm.refl _, (h.cons _).cons_cons _⟩
    | cons_cons _ h =>
      cases h with
      | cons _ h => exact ⟨_, List.Perm.refl _, (h.cons_cons _).cons _⟩
      | cons_cons _ h => exact ⟨_, List.Perm.swap _ _ _, (h.cons_cons _).cons_cons _⟩
  | trans _ _ ih1 ih2 =>
    obtain ⟨k1, h1, h2⟩ := ih1 h
    obtain ⟨k2, h3, h4⟩ := ih2 h2
    exact ⟨k2, h1.trans h3, h4⟩
def cat (ls : List (List Blk)) (F : List Blk) : List Blk := match ls with
  | [] => F
  | s :: ls => s ++ cat ls F
inductive Ins {α : Type} (a : α) : List α → List α → Prop
  | here {l : List α} : Ins a l (a :: l)
  | there {b : α} {l m : List α} (h : Ins a l m) : Ins a (b :: l) (b :: m)
inductive SubM : List (List Blk) → List (List Blk) → Prop
  | nil {m : List (List Blk)} : SubM [] m
  | cons {a : List Blk} {l l' m : List (List Blk)} (h : Ins a l' m) (t : SubM l l') : SubM (a :: l) m
inductive PermM : List (List Blk) → List (List Blk) → Prop
  | nil : PermM [] []
  | cons {a : List Blk} {l l' m : List (List Blk)} (h : Ins a l' m) (t : PermM l l') : PermM (a :: l) m
theorem Ins.perm {a : List Blk} {l m : List (List Blk)} (h : Ins a l m) (F : List Blk) : (a ++ cat l F).Perm (cat m F) := by
  induction h with
  | here => exact List.Perm.refl _
  | @there b l m h ih =>
    show (a ++ (b ++ cat l F)).Perm (b ++ cat m F)
    refine List.Perm.trans ?_ (List.Perm.append_left b ih)
    rw [← List.append_assoc, ← List.append_assoc]
    exact List.Perm.append_right _ List.perm_append_comm
theorem PermM.perm {l m : List (List Blk)} (h : PermM l m) (F : List Blk) : (cat l F).Perm (cat m F) := by
  induction h with
  | nil => exact List.Perm.refl _
  | cons h _ ih => exact List.Perm.trans (List.Perm.append_left _ ih) (h.perm F)
theorem cat_sublist : ∀ (m : List (List Blk)) (F : List Blk), F.Sublist (cat m F)
  | [], _ => List.Sublist.refl _
  | _ :: m, F => List.Sublist.trans (cat_sublist m F) (List.sublist_append_right _ _)
theorem SubM.subp {l m : List (List Blk)} (h : SubM l m) (F : List Blk) : SubP (cat l F) (cat m F) := by
  induction h with
  | nil => exact ⟨F, List.Perm.refl _, cat_sublist _ F⟩
  | cons h _ ih =>
    obtain ⟨M, h1, h2⟩ := ih
    have h3 := h.perm F
    rename_i a l l' m _
    obtain ⟨M', h4, h5⟩ : ∃ M', (a ++ M).Perm M' ∧ M'.Sublist (cat m F) := by
      have h6 : (a ++ M).Sublist (a ++ cat l' F) := List.Sublist.append_left h2 a
      obtain ⟨M', h7, h8⟩ := h6.subperm_like h3
      exact ⟨M', h7, h8⟩
    exact ⟨M', List.Perm.trans (List.Perm.append_left a h1) h4, h5⟩
theorem mem_cat {ls : List (List Blk)} {F s : List Blk} {q : Blk} (h : s ∈ ls) (hq : q ∈ s) : q ∈ cat ls F := by
  induction ls with
  | nil => cases h
  | cons t ls ih =>
    rcases List.mem_cons.1 h with rfl | h
    · exact List.mem_append_left _ hq
    · exact List.mem_append_right _ (ih h)
theorem mem_catF : ∀ {ls : List (List Blk)} {F : List Blk} {q : Blk} (_ : q ∈ F), q ∈ cat ls F
  | [], _, _, h => h
  | _ :: _, _, _, h => List.mem_append_right _ (mem_catF h)
theorem cat_perm {ls' ls : List (List Blk)} {F : List Blk} (h : PermM ls' ls) : (cat ls' F).Perm (cat ls F) := h.perm F
theorem cat_sub {ls' ls : List (List Blk)} {F : List Blk} (h : SubM ls' ls) : SubP (cat ls' F) (cat ls F) := h.subp F

/-- The frame at a function's begin. -/
def envOf : Nat → List Value → Env
  | _, [] => []
  | i, v :: vs => (i, v) :: envOf (i + 1) vs

theorem find_envOf : ∀ (vs : List Value) (i t : Nat), find (envOf i vs) t = if i ≤ t then vs[t - i]? else none
  | [], i, t => by simp [envOf, find]
  | v :: vs, i, t => by
    unfold envOf find
    split
    · rename_i he
      have : i = t := by simpa using he
      subst this; simp
    · rename_i he
      have hne : i ≠ t := fun e => by subst e; simp at he
      rw [find_envOf vs (i + 1) t]
      by_cases h : i ≤ t
      · rw [if_pos h, if_pos (by omega), show t - i = (t - (i + 1)) + 1 from by omega, List.getElem?_cons_succ]
      · rw [if_neg h, if_neg (by omega)]

theorem ca_enter {f : FuncId} {fn : Func} {c : Code} {args : List Value} {R : Value → List Blk → Prop} (hf : P.funcs[f]? = some fn) (hb : fn.body = some c) (hn : Nat.ble args.length fn.ntmps = true)
    (h : CG P c (bodyPost P fn fun e w' => ∃ v L', e = .returned v ∧ R v L' ∧ Has w' O L') fn.ntmps (envOf 0 args) O L) : CA P f args O L R := by
  intro w hh
  refine calls_of_wp hf hb (h _ w ⟨?_, rfl, ?_⟩ hh)
  · have : args.length ≤ fn.ntmps := by simpa using hn
    simp; omega
  · intro t v ht
    rw [find_envOf] at ht
    simp only [Nat.zero_le, if_true, Nat.sub_zero] at ht
    have hlt : t < args.length := (List.getElem?_eq_some_iff.1 ht).1
    have h2 := (List.getElem?_eq_some_iff.1 ht).2
    simp [Array.getElem?_append, hlt, h2]

/-- A function that may be called. -/
class Fun (P : Program) (f : FuncId) : Prop where
  ok : (match P.funcs[f]? with
    | some fn => !(fn.name == "runtime.NumGoroutine") && fn.body.isSome
    | none => false) = true

theorem run_callFunc {f : FuncId} [h : Fun P f] (args : Array Value) (w : World) : (callFunc f args).run P w = .ok (.enter f args) w := by
  have := h.ok
  unfold callFunc
  cases hf : P.funcs[f]? with
  | none => simp [hf] at this
  | some fn =>
    simp only [hf, Bool.and_eq_true, Bool.not_eq_true'] at this
    obtain ⟨h1, h2⟩ := this
    have h3 : fn.body ≠ none := fun e => by simp [e] at h2
    have h4 : fn.name ≠ "runtime.NumGoroutine" := fun e => by simp [e] at h1
    simp [hf, h4, h3]

inductive EvAll (E : Env) : List Operand → List Value → Prop
  | nil : EvAll E [] []
  | cons {x : Operand} {v : Value} {xs : List Operand} {vs : List Value} (h : ev E x = some v) (t : EvAll E xs vs) : EvAll E (x :: xs) (v :: vs)

theorem EvAll.map {xs : List Operand} {vs : List Value} (h : EvAll E xs vs) (hf : Fr n E a) : xs.map a.eval = vs := by
  induction h with
  | nil => rfl
  | cons h _ ih => simp [hf.ev h, ih]

/-- A call, of a function by its name or of a closure. -/
theorem ev_call {dst : Option Tmp} {f : FuncId} [Fun P f] {x : Operand} {args : List Operand} {at_ : Array TypeId} {ty : TypeId} {pos : String} {after : Array Edge} {g : Option (Nat × Bool)}
    {vs : List Value} {first captured : List Value} {next : Value → List Blk → Prop} (hx : ev E x = some (.func (.func f) first.toArray captured.toArray)) (ha : EvAll E args vs)
    (h : CA P f (first ++ vs ++ captured) O L next) : EV P ⟨dst, .call { callee := .value x, args := args.toArray, argTypes := at_ }, ty, pos, after, g⟩ n E O L next := by
  intro a w hf hh K Q hk
  have h1 := hf.ev hx
  have h2 := ha.map hf
  unfold Oper.wp
  have : (execOp a.eval ⟨dst, .call { callee := .value x, args := args.toArray, argTypes := at_ }, ty, pos, after, g⟩).run P w = .ok (.enter f (first ++ vs ++ captured).toArray) w := by
    simp [execOp, resolve, h1, h2, Deferred.ofValue, invoke, run_callFunc]
  rw [this]
  simp only [Oper.upon]
  refine (h w hh).mono fun e w' ⟨v, L', he, hR, hH⟩ => ?_
  subst he
  exact hk v w' L' hH hR
theorem ev_call0 {dst : Option Tmp} {f : FuncId} [Fun P f] {x : Operand} {args : List Operand} {at_ : Array TypeId} {ty : TypeId} {pos : String} {after : Array Edge} {g : Option (Nat × Bool)}
    {vs : List Value} {next : Value → List Blk → Prop} (hx : ev E x = some (.func (.func f) #[] #[])) (ha : EvAll E args vs)
    (h : CA P f vs O L next) : EV P ⟨dst, .call { callee := .value x, args := args.toArray, argTypes := at_ }, ty, pos, after, g⟩ n E O L next :=
  ev_call (first := []) (captured := []) hx ha (by simpa using h)
end Fw
end Go.Proofs.YthmicniimofagaaGreat
