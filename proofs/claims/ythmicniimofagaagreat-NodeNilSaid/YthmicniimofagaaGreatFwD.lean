/-
  THE BASE OF THE WALKS (4): memory: reads, new blocks, stores, append. Conditions: an append's new length times the element's bytes is at most 2^40.
-/
import Derived.Test.YthmicniimofagaaGreatFwC
namespace Go.Proofs.YthmicniimofagaaGreat
namespace Fw
set_option linter.unusedSimpArgs false
variable {P : Program} {n : Nat} {E : Env} {O : Out} {L : List Blk}

/-- Block b turns from o to o'. -/
inductive Upd (b : Nat) (o o' : Obj) : List Blk → List Blk → Prop
  | here {L : List Blk} : Upd b o o' ((b, o) :: L) ((b, o') :: L)
  | there {L L' : List Blk} {x : Blk} (h : Upd b o o' L L') : Upd b o o' (x :: L) (x :: L')
  | app {B L L' : List Blk} (h : Upd b o o' L L') : Upd b o o' (B ++ L) (B ++ L')
  | appL {B B' L : List Blk} (h : Upd b o o' B B') : Upd b o o' (B ++ L) (B' ++ L)

theorem Upd.mem {b : Nat} {o o' : Obj} {L L' : List Blk} (h : Upd b o o' L L') : (b, o) ∈ L := by
  induction h with
  | here => simp
  | there _ ih => exact List.mem_cons_of_mem _ ih
  | app _ ih => exact List.mem_append_right _ ih
  | appL _ ih => exact List.mem_append_left _ ih
theorem Upd.keys {b : Nat} {o o' : Obj} {L L' : List Blk} (h : Upd b o o' L L') : L'.map Prod.fst = L.map Prod.fst := by
  induction h <;> simp_all
theorem Upd.old {b : Nat} {o o' : Obj} {L L' : List Blk} (h : Upd b o o' L L') : ∀ p, p ∈ L' → p = (b, o') ∨ p ∈ L ∧ (p.1 ≠ b ∨ ¬ (L.map Prod.fst).Nodup) := by
  induction h with
  | @here L =>
    intro p hp
    rcases List.mem_cons.1 hp with rfl | hp
    · exact .inl rfl
    · refine .inr ⟨List.mem_cons_of_mem _ hp, ?_⟩
      by_cases hb : p.1 = b
      · refine .inr fun hnd => ?_
        simp only [List.map_cons, List.nodup_cons] at hnd
        exact hnd.1 (hb ▸ List.mem_map_of_mem hp)
      · exact .inl hb
  | @there L L' x h ih =>
    intro p hp
    rcases List.mem_cons.1 hp with rfl | hp
    · refine .inr ⟨List.mem_cons_self, ?_⟩
      by_cases hb : p.1 = b
      · refine .inr fun hnd => ?_
        simp only [List.map_cons, List.nodup_cons] at hnd
        exact hnd.1 (hb ▸ List.mem_map_of_mem h.mem)
      · exact .inl hb
    · rcases ih p hp with h1 | ⟨h1, h2⟩
      · exact .inl h1
      · exact .inr ⟨List.mem_cons_of_mem _ h1, h2.imp id fun h3 hnd => h3 (by simp only [List.map_cons, List.nodup_cons] at hnd; exact hnd.2)⟩
  | @app B L L' h ih =>
    intro p hp
    rcases List.mem_append.1 hp with hp | hp
    · refine .inr ⟨List.mem_append_left _ hp, ?_⟩
      by_cases hb : p.1 = b
      · refine .inr fun hnd => ?_
        simp only [List.map_append] at hnd
        have := (List.nodup_append.1 hnd).2.2
        exact this _ (List.mem_map_of_mem hp) _ (List.mem_map_of_mem h.mem) hb
      · exact .inl hb
    · rcases ih p hp with h1 | ⟨h1, h2⟩
      · exact .inl h1
      · exact .inr ⟨List.mem_append_right _ h1, h2.imp id fun h3 hnd => h3 (by simp only [List.map_append] at hnd; exact (List.nodup_append.1 hnd).2.1)⟩
  | @appL B B' L h ih =>
    intro p hp
    rcases List.mem_append.1 hp with hp | hp
    · rcases ih p hp with h1 | ⟨h1, h2⟩
      · exact .inl h1
      · exact .inr ⟨List.mem_append_left _ h1, h2.imp id fun h3 hnd => h3 (by simp only [List.map_append] at hnd; exact (List.nodup_append.1 hnd).1)⟩
    · refine .inr ⟨List.mem_append_right _ hp, ?_⟩
      by_cases hb : p.1 = b
      · refine .inr fun hnd => ?_
        simp only [List.map_append] at hnd
        have := (List.nodup_append.1 hnd).2.2
        exact this _ (List.mem_map_of_mem h.mem) _ (List.mem_map_of_mem hp) hb.symm
      · exact .inl hb

def setBlk (w : World) (b : Nat) (o : Obj) : World := { w with heap := w.heap.setIfInBounds b o }

theorem Upd.has {b : Nat} {o o' : Obj} {L L' : List Blk} {w : World} (h : Upd b o o' L L') (hh : Has w O L) : Has (setBlk w b o') O L' where
  all := by
    intro c x hm
    rcases h.old _ hm with he | ⟨h1, h2⟩
    · cases he
      have := hh.lt h.mem
      simp [setBlk, this]
    · have hne : c ≠ b := h2.resolve_right (fun h => h hh.nd)
      have := hh.all c x h1
      simp only [setBlk, Array.getElem?_setIfInBounds_ne (Ne.symm hne), this]
  nd := by rw [h.keys]; exact hh.nd
  same := hh.same

theorem setCell_blk {w : World} {b o : Nat} {cs : Array Value} {t : TypeId} {fz : Nat × Nat} {v : Value} (h : w.heap[b]? = some (.cells cs t fz)) :
    w.setCell ⟨b, o, none⟩ v = setBlk w b (.cells (cs.setIfInBounds o v) t fz) := by
  unfold World.setCell setBlk
  congr 1
  apply Array.ext_getElem?
  intro i
  rw [Array.getElem?_modify]
  by_cases hi : b = i
  · subst hi
    obtain ⟨hlt, hv⟩ := Array.getElem?_eq_some_iff.1 h
    simp [hlt, hv]
  · simp [hi, Array.getElem?_setIfInBounds_ne hi]

theorem run_storeCells {b : Nat} {t : TypeId} : ∀ (vs : List Value) (o i : Nat) (cs : Array Value) (w : World), w.heap[b]? = some (.cells cs t (0, 0)) → o + i + vs.length ≤ cs.size → (∀ v ∈ vs, v.oneCell' = true) →
    (storeCells ⟨b, o, none⟩ vs i).run P w = .ok () (setBlk w b (.cells (putAt cs (o + i) vs) t (0, 0)))
  | [], o, i, cs, w, h, _, _ => by
    have hs : setBlk w b (.cells cs t (0, 0)) = w := by
      obtain ⟨hlt, hv⟩ := Array.getElem?_eq_some_iff.1 h
      unfold setBlk
      congr 1
      apply Array.ext_getElem?
      intro j
      by_cases hj : b = j
      · subst hj; simp [hlt, hv]
      · simp [Array.getElem?_setIfInBounds_ne hj]
    simp [storeCells, putAt, hs]
  | v :: vs, o, i, cs, w, h, hl, hv => by
    have hlt : b < w.heap.size := (Array.getElem?_eq_some_iff.1 h).1
    have ho : o + i < cs.size := by simp at hl; omega
    have hc : w.cell? ⟨b, o + i, none⟩ = some cs[o + i] := by simp [World.cell?, h, ho]
    have hf : w.frozen? ⟨b, o + i, none⟩ = false := by simp [World.frozen?, h]
    have h1 : (setBlk w b (.cells (cs.setIfInBounds (o + i) v) t (0, 0))).heap[b]? = some (.cells (cs.setIfInBounds (o + i) v) t (0, 0)) := by simp [setBlk, hlt]
    have ih := run_storeCells vs o (i + 1) (cs.setIfInBounds (o + i) v) _ h1 (by simp at hl ⊢; omega) (fun u hu => hv u (List.mem_cons_of_mem _ hu))
    simp only [storeCells, Sem.run_bind, add_at, run_store P w _ v _ (hv v List.mem_cons_self), hc, hf, Bool.false_eq_true, if_false, Result.andThen_ok, setCell_blk h, ih]
    simp only [setBlk, putAt, Array.setIfInBounds_setIfInBounds, Nat.add_assoc]

section
variable {dst : Option Tmp} {ty : TypeId} {pos : String} {after : Array Edge} {g : Option (Nat × Bool)} {x y z : Operand} {v u : Value} {T : Nat}

theorem qr_load1 {b o : Nat} {cs : List Value} {t : TypeId} {fz : Nat × Nat} [TOne P T] (h : ev E x = some (.pointer (some ⟨b, o, none⟩))) (hm : (b, Obj.cells cs.toArray t fz) ∈ L) (hv : cs[o]? = some v) :
    QR P ⟨dst, .load T x, ty, pos, after, g⟩ E O L v := fun a n hf w hh => by
  have := run_loadOne (P := P) (T := T) (hh.cell (off := o) (v := v) hm (by simpa using hv))
  simp [execOp, hf.ev h, Instr.loadAt, Instr.sureAddr, this]
theorem qr_load1' {b o : Nat} {cs : Array Value} {t : TypeId} {fz : Nat × Nat} [TOne P T] (h : ev E x = some (.pointer (some ⟨b, o, none⟩))) (hm : (b, Obj.cells cs t fz) ∈ L) (hv : cs[o]? = some v) :
    QR P ⟨dst, .load T x, ty, pos, after, g⟩ E O L v := fun a n hf w hh => by
  have := run_loadOne (P := P) (T := T) (hh.cell (off := o) (v := v) hm hv)
  simp [execOp, hf.ev h, Instr.loadAt, Instr.sureAddr, this]
theorem loadSeg {b o sz : Nat} {cs : Array Value} {t : TypeId} {fz : Nat × Nat} {vs : List Value} [ht : TAgg P T sz] (hm : (b, Obj.cells cs t fz) ∈ L) (hv : Seg cs o vs) (hl : vs.length = sz) {w : World} (hh : Has w O L) :
    (loadVar T ⟨b, o, none⟩).run P w = .ok (.agg vs.toArray) w := by
  subst hl
  refine run_loadAgg fun j hj => ?_
  have h1 := hv j hj
  rw [List.getElem?_eq_getElem hj] at h1 ⊢
  exact hh.cell hm h1
theorem qr_loadS {b o sz : Nat} {cs : Array Value} {t : TypeId} {fz : Nat × Nat} {vs : List Value} [TAgg P T sz] (h : ev E x = some (.pointer (some ⟨b, o, none⟩))) (hm : (b, Obj.cells cs t fz) ∈ L) (hv : Seg cs o vs) (hl : vs.length = sz) :
    QR P ⟨dst, .load T x, ty, pos, after, g⟩ E O L (.agg vs.toArray) := fun a n hf w hh => by
  have := loadSeg (P := P) (T := T) hm hv hl hh
  simp [execOp, hf.ev h, Instr.loadAt, Instr.sureAddr, this]
theorem qr_loadN {b o sz : Nat} {cs : List Value} {t : TypeId} {fz : Nat × Nat} {vs : List Value} [TAgg P T sz] (h : ev E x = some (.pointer (some ⟨b, o, none⟩))) (hm : (b, Obj.cells cs.toArray t fz) ∈ L) (hv : SegL cs o sz vs) :
    QR P ⟨dst, .load T x, ty, pos, after, g⟩ E O L (.agg vs.toArray) := qr_loadS h hm hv.seg.1 hv.seg.2

theorem resCell1 {t ty : TypeId} {b o : Nat} {cs : List Value} {fz : Nat × Nat} {tm : Tmp} [TOne P ty] (h : find E tm = some (.pointer (some ⟨b, o, none⟩))) (hm : (b, Obj.cells cs.toArray t fz) ∈ L) (hv : cs[o]? = some v) : ResIs P E O L (.cell tm ty) v :=
  .cell h fun _ hh => run_loadOne (hh.cell (off := o) (v := v) hm (by simpa using hv))
theorem resCellN {t ty : TypeId} {b o sz : Nat} {cs vs : List Value} {fz : Nat × Nat} {tm : Tmp} [TAgg P ty sz] (h : find E tm = some (.pointer (some ⟨b, o, none⟩))) (hm : (b, Obj.cells cs.toArray t fz) ∈ L) (hv : SegL cs o sz vs) : ResIs P E O L (.cell tm ty) (.agg vs.toArray) :=
  .cell h fun _ hh => loadSeg hm hv.seg.1 hv.seg.2 hh

/-- A quiet operation, as one that steps. -/
theorem ev_q {o : Oper} (h : QR P o E O L v) : EV P o n E O L fun u L' => u = v ∧ L' = L := fun a w hf hh K Q hk => by
  unfold Oper.wp
  rw [h a n hf w hh]
  exact hk v w L hh ⟨rfl, rfl⟩

theorem ev_new {o : Oper} {ob : Obj} (val : Nat → Value) (h : ∀ a, Fr n E a → ∀ w, (execOp a.eval o).run P w = .ok (.value (val w.heap.size)) { w with heap := w.heap.push ob }) :
    EV P o n E O L fun u L' => ∃ b, u = val b ∧ L' = (b, ob) :: L := fun a w hf hh K Q hk => by
  unfold Oper.wp
  rw [h a hf w]
  exact hk _ _ _ (hh.alloc ob) ⟨_, rfl, rfl⟩

theorem ev_box {vs : List Value} (h : ev E x = some v) (hc : CellsOf v vs) : EV P ⟨dst, .box T x, ty, pos, after, g⟩ n E O L fun u L' => ∃ b, u = .pointer (some ⟨b, 0, none⟩) ∧ L' = (b, .cells vs.toArray T (0, 0)) :: L :=
  ev_new (fun b => .pointer (some ⟨b, 0, none⟩)) fun a hf w => by simp [execOp, Instr.box, hf.ev h, newVar, newRow, hc.eq]
theorem ev_alloc {zv : Value} {zs : List Value} [hz : TZero P T zv] (hc : CellsOf zv zs) : EV P ⟨dst, .alloc T, ty, pos, after, g⟩ n E O L fun u L' => ∃ b, u = .pointer (some ⟨b, 0, none⟩) ∧ L' = (b, .cells zs.toArray T (0, 0)) :: L :=
  ev_new (fun b => .pointer (some ⟨b, 0, none⟩)) fun a hf w => by simp [execOp, Instr.alloc, run_zero, newVar, newRow, hc.eq]
theorem ev_makeMap0 : EV P ⟨dst, .makeMap T none, ty, pos, after, g⟩ n E O L fun u L' => ∃ b, u = .map (some b) ∧ L' = (b, .map #[] 0) :: L :=
  ev_new (fun b => .map (some b)) fun a hf w => by simp [execOp, Instr.makeMap]
def rep : Nat → List Value → List Value
  | 0, _ => []
  | n + 1, z => z ++ rep n z
theorem rep_length (z : List Value) : ∀ n, (rep n z).length = n * z.length
  | 0 => by simp [rep]
  | n + 1 => by simp [rep, rep_length z n, Nat.add_mul]; omega
theorem rep_get (z : List Value) : ∀ (n i : Nat), i < n * z.length → (rep n z)[i]? = z[i % z.length]?
  | 0, i, h => by simp at h
  | n + 1, i, h => by
    by_cases hi : i < z.length
    · simp [rep, List.getElem?_append, hi, Nat.mod_eq_of_lt hi]
    · have h2 : i - z.length < n * z.length := by rw [Nat.add_mul] at h; omega
      have := rep_get z n (i - z.length) h2
      rw [rep, List.getElem?_append, if_neg hi, this, ← Nat.mod_eq_sub_mod (by omega)]
theorem rep_eq (z : List Value) (n : Nat) : ((Array.range (n * z.length)).map fun i => z.toArray[i % z.toArray.size]!) = (rep n z).toArray := by
  apply Array.ext
  · simp [rep_length]
  · intro i h1 h2
    have h3 : i < n * z.length := by simpa using h1
    have h4 := rep_get z n i h3
    have h5 : i < (rep n z).length := by simpa using h2
    have hz : 0 < z.length := by
      rcases Nat.eq_zero_or_pos z.length with h0 | h0
      · rw [h0] at h3; simp at h3
      · exact h0
    have h6 : i % z.length < z.length := Nat.mod_lt _ hz
    rw [List.getElem?_eq_getElem h5, List.getElem?_eq_getElem h6] at h4
    simp only [Option.some.injEq] at h4
    simp [h4, h6]
theorem ev_buildSlice {len e esz eby : Nat} {zv : Value} {zc out : List Value} {parts : List (Nat × Operand)} {ps : List (Nat × Value)} [ht : TSl P T e esz eby] [hz : TZero P e zv] (hp : EvParts E parts ps) (hsm : Nat.ble (len * esz) 16777216 = true)
    (hzc : CellsOf zv zc) (hzl : Nat.beq zc.length esz = true) (h : Fill ((List.range len).map fun i => (i * esz, esz)) (rep len zc) ps out) :
    EV P ⟨dst, .buildSlice T len parts.toArray, ty, pos, after, g⟩ n E O L fun u L' => ∃ b, u = .slice (some ⟨b, 0, none⟩) len len ∧ L' = (b, .cells out.toArray e (0, 0)) :: L :=
  ev_new (fun b => .slice (some ⟨b, 0, none⟩) len len) fun a hf w => by
  obtain ⟨i, hu, hi, hs, _⟩ := ht.get
  have hzl' : zc.length = esz := by simpa using hzl
  obtain ⟨zs, hzs⟩ : ∃ zs, zs = rep len zc := ⟨_, rfl⟩
  have hz0 : ((Array.range (len * esz)).map fun i => zv.cells[i % zv.cells.size]!) = zs.toArray := by
    rw [hzs, hzc.eq, ← hzl']; exact rep_eq zc len
  rw [← hzs] at h
  have h1 := hp.map hf
  have h2 := h.fill (place := fun i => some (i * esz, esz)) (fun i o sz hi => by
    simp only [List.getElem?_map] at hi
    cases hr : (List.range len)[i]? with
    | none => simp [hr] at hi
    | some j =>
      obtain ⟨hlt, hj⟩ := List.getElem?_eq_some_iff.1 hr
      have : i = j := by simpa using hj
      subst this
      simp only [hr, Option.map_some, Option.some.injEq] at hi
      rw [hi])
  have h3 : (parts.toArray.map fun (x : Nat × Operand) => match x with | (i, x) => (i, a.eval x)).toList = ps := by
    rw [← h1]; simp
  have hsm' : ¬ (len * esz > 2 ^ 24) := by have h4 : len * esz ≤ 16777216 := by simpa using hsm
                                           omega
  have hrun : ∀ cells : Array Value, ((Array.range (len * esz)).map fun i => cells[i % cells.size]!) = zs.toArray →
      (do
        let some cells := Instr.fill (fun i => some (i * esz, esz)) ((Array.range (len * esz)).map (cells[· % cells.size]!)) (parts.toArray.map fun (x : Nat × Operand) => match x with | (i, x) => (i, a.eval x)).toList
          | stuck "buildSlice: a part of the wrong size"
        pure (.slice (some (← newRow e cells)) len len) : Sem Value).run P w = .ok (.slice (some ⟨w.heap.size, 0, none⟩) len len) { w with heap := w.heap.push (.cells out.toArray e (0, 0)) } := by
    intro cells hz
    rw [hz, h3, h2]
    simp [newRow]
  have hmain : (Instr.buildSlice T len (parts.toArray.map fun (x : Nat × Operand) => match x with | (i, x) => (i, a.eval x))).run P w = .ok (.slice (some ⟨w.heap.size, 0, none⟩) len len) { w with heap := w.heap.push (.cells out.toArray e (0, 0)) } := by
    unfold Instr.buildSlice
    rw [Sem.run_bind, run_underlying hu, Result.andThen_ok]
    simp only []
    rw [Sem.run_bind, run_sizeOf' hi, Result.andThen_ok, hs, if_neg hsm']
    by_cases h0 : len * esz = 0
    · rw [if_pos h0, Sem.run_bind, Sem.run_pure, Result.andThen_ok]
      exact hrun #[] (by rw [← hz0, h0]; simp)
    · rw [if_neg h0, Sem.run_bind, run_zero, Result.andThen_ok, Sem.run_bind, Sem.run_pure, Result.andThen_ok]
      exact hrun zv.cells hz0
  simp only [execOp, Sem.run_bind, hmain, Result.andThen_ok, Sem.run_pure]

/-- The value of a store: its cells. -/
theorem ev_store {b o : Nat} {cs cs' vs : List Value} {t : TypeId} {L' : List Blk} (h : ev E x = some (.pointer (some ⟨b, o, none⟩))) (hy : ev E y = some v) (hc : CellsOf v vs)
    (_ : (b, Obj.cells cs.toArray t (0, 0)) ∈ L) (hs : SetSeg cs o vs cs') (hne : vs.isEmpty = false) (hone : (vs.all (·.oneCell')) = true) (hu : Upd b (.cells cs.toArray t (0, 0)) (.cells cs'.toArray t (0, 0)) L L') (hsz : TOne P T ∧ vs.length = 1 ∨ TAgg P T vs.length) :
    EV P ⟨dst, .store T x y, ty, pos, after, g⟩ n E O L fun u L1 => u = undef ∧ L1 = L' := fun a w hf hh K Q hk => by
  have hsize : (sizeOf T).run P w = .ok vs.length w := by
    rcases hsz with ⟨h1, h2⟩ | h1
    · rw [h2]; exact h1.size w
    · exact h1.size w
  rcases hs.putAt with ⟨h1, h2⟩ | ⟨h1, _⟩
  · have hst := run_storeCells (P := P) vs o 0 cs.toArray w (hh.all _ _ hu.mem) (by simpa using h2) (fun v hv => List.all_eq_true.1 hone v hv)
    have : (execOp a.eval ⟨dst, .store T x y, ty, pos, after, g⟩).run P w = .ok .skip (setBlk w b (.cells cs'.toArray t (0, 0))) := by
      simp only [execOp, hf.ev h, hf.ev hy, Instr.storeAt, Instr.sureAddr, Sem.run_bind, Sem.run_pure, Result.andThen_ok, storeVar, hsize, hc.eq]
      simp [hst, h1]
    unfold Oper.wp
    rw [this]
    exact hk undef _ _ (hu.has hh) ⟨rfl, rfl⟩
  · subst h1; cases hne

/-- A store into a row that is not written out. -/
theorem ev_store' {b o : Nat} {cs : Array Value} {vs : List Value} {t : TypeId} {L' : List Blk} (h : ev E x = some (.pointer (some ⟨b, o, none⟩))) (hy : ev E y = some v) (hc : CellsOf v vs)
    (hu : Upd b (.cells cs t (0, 0)) (.cells (putAt cs o vs) t (0, 0)) L L') (hs : o + vs.length ≤ cs.size) (hone : (vs.all (·.oneCell')) = true) (hsz : TOne P T ∧ vs.length = 1 ∨ TAgg P T vs.length) :
    EV P ⟨dst, .store T x y, ty, pos, after, g⟩ n E O L fun u L1 => u = undef ∧ L1 = L' := fun a w hf hh K Q hk => by
  have hsize : (sizeOf T).run P w = .ok vs.length w := by
    rcases hsz with ⟨h1, h2⟩ | h1
    · rw [h2]; exact h1.size w
    · exact h1.size w
  have hst := run_storeCells (P := P) vs o 0 cs w (hh.all _ _ hu.mem) (by simpa using hs) (fun v hv => List.all_eq_true.1 hone v hv)
  have : (execOp a.eval ⟨dst, .store T x y, ty, pos, after, g⟩).run P w = .ok .skip (setBlk w b (.cells (putAt cs o vs) t (0, 0))) := by
    simp only [execOp, hf.ev h, hf.ev hy, Instr.storeAt, Instr.sureAddr, Sem.run_bind, Sem.run_pure, Result.andThen_ok, storeVar, hsize, hc.eq]
    simp [hst]
  unfold Oper.wp
  rw [this]
  exact hk undef _ _ (hu.has hh) ⟨rfl, rfl⟩

/-! ### slices -/
theorem qw_slice_hi {e esz eby len cap : Nat} {p : Option Addr} {k : IntKind} {i : Int} [ht : TSl P T e esz eby] (hp : ∀ q, p = some q → q.spot = none) (h : ev E x = some (.slice p len cap)) (hy : ev E y = some (.int k i)) (h0 : 0 ≤ i) (h1 : i ≤ cap) :
    QW P ⟨dst, .slice T x none (some y) none, ty, pos, after, g⟩ E (.slice p i.toNat cap) := fun a n hf w => by
  obtain ⟨inf, t1, t2, t3, _⟩ := ht.get
  have hadd : (if cap = 0 then p else p.map fun a => a.add (0 * esz)) = p := by
    cases p with
    | none => simp
    | some q => obtain ⟨b, o, s⟩ := q; have := hp _ rfl; simp at this; subst this; simp
  simp [execOp, Instr.sliceAt, Instr.slice, Instr.sliceBounds, Instr.sliceBound, asIntOf, hf.ev h, hf.ev hy, run_underlying t1, h0, h1, run_sizeOf' t2, t3]
  cases p with
  | none => simp
  | some q => obtain ⟨b, o, s⟩ := q; have := hp _ rfl; simp at this; subst this; simp
theorem qw_slice_lo {e esz eby len cap b o : Nat} {k : IntKind} {i : Int} [ht : TSl P T e esz eby] (h : ev E x = some (.slice (some ⟨b, o, none⟩) len cap)) (hy : ev E y = some (.int k i)) (h0 : 0 ≤ i) (h1 : i ≤ len) :
    QW P ⟨dst, .slice T x (some y) none none, ty, pos, after, g⟩ E (.slice (some (if cap = i.toNat then ⟨b, o, none⟩ else ⟨b, o + i.toNat * esz, none⟩)) (len - i.toNat) (cap - i.toNat)) := fun a n hf w => by
  obtain ⟨inf, t1, t2, t3, _⟩ := ht.get
  simp [execOp, Instr.sliceAt, Instr.slice, Instr.sliceBounds, Instr.sliceBound, asIntOf, hf.ev h, hf.ev hy, run_underlying t1, h0, h1, run_sizeOf' t2, t3]
  split <;> rfl
theorem qw_slice_arr {m esz b o : Nat} [ht : TArr P T m esz] (h : ev E x = some (.pointer (some ⟨b, o, none⟩))) :
    QW P ⟨dst, .slice T x none none none, ty, pos, after, g⟩ E (.slice (some ⟨b, o, none⟩) m m) := fun a n hf w => by
  obtain ⟨e, i, hu, hi, hs⟩ := ht.get
  simp [execOp, Instr.sliceAt, Instr.sliceBounds, hf.ev h, Instr.sureAddr, run_underlying hu, run_sizeOf' hi]
theorem run_eqSliceNil {e : TypeId} {p : Option Addr} {len cap : Nat} [ht : TUn P T (.slice e)] (w : World) : (Op.equal T (.slice p len cap) (.slice none 0 0)).run P w = .ok p.isNone w := by
  have : ∀ d, (Op.equalIn (d + 1) T (.slice p len cap) (.slice none 0 0)).run P w = .ok p.isNone w := fun d => by
    unfold Op.equalIn
    rw [Sem.run_bind, run_underlying ht.ok, Result.andThen_ok]
    cases p <;> rfl
  exact this 9999
theorem run_eqBool {c d : Bool} [ht : TUn P T .bool] (w : World) : (Op.equal T (.bool c) (.bool d)).run P w = .ok (c == d) w := by
  have : ∀ k, (Op.equalIn (k + 1) T (.bool c) (.bool d)).run P w = .ok (c == d) w := fun k => by
    unfold Op.equalIn
    rw [Sem.run_bind, run_underlying ht.ok, Result.andThen_ok]
    rfl
  exact this 9999
theorem eqGuard_slice {op : BinOp} {p q : Option Addr} {i j k l : Nat} {w : World} : (eqGuard op T x y (.slice p i j) (.slice q k l)).run P w = .ok () w := by
  unfold eqGuard
  split <;> simp
theorem eqGuard_bool {op : BinOp} {c d : Bool} {w : World} : (eqGuard op T x y (.bool c) (.bool d)).run P w = .ok () w := by
  unfold eqGuard
  split <;> simp
theorem qw_eql_slice_nil {e : TypeId} {p : Option Addr} {len cap : Nat} {yt : TypeId} [ht : TUn P T (.slice e)] (h : ev E x = some (.slice p len cap)) (hy : ev E y = some (.slice none 0 0)) :
    QW P ⟨dst, .binOp .eql T x y yt, ty, pos, after, g⟩ E (.bool p.isNone) := fun a n hf w => by
  simp only [execOp, hf.ev h, hf.ev hy, Sem.run_bind, eqGuard_slice, Result.andThen_ok, binOp, run_eqSliceNil, Sem.run_pure]
theorem qw_neq_slice_nil {e : TypeId} {p : Option Addr} {len cap : Nat} {yt : TypeId} [ht : TUn P T (.slice e)] (h : ev E x = some (.slice p len cap)) (hy : ev E y = some (.slice none 0 0)) :
    QW P ⟨dst, .binOp .neq T x y yt, ty, pos, after, g⟩ E (.bool p.isSome) := fun a n hf w => by
  simp only [execOp, hf.ev h, hf.ev hy, Sem.run_bind, eqGuard_slice, Result.andThen_ok, binOp, run_eqSliceNil, Sem.run_pure]
  cases p <;> rfl
theorem qw_eql_bool {c d : Bool} {yt : TypeId} [ht : TUn P T .bool] (h : ev E x = some (.bool c)) (hy : ev E y = some (.bool d)) :
    QW P ⟨dst, .binOp .eql T x y yt, ty, pos, after, g⟩ E (.bool (c == d)) := fun a n hf w => by
  simp only [execOp, hf.ev h, hf.ev hy, Sem.run_bind, eqGuard_bool, Result.andThen_ok, binOp, run_eqBool, Sem.run_pure]
theorem qw_neq_bool {c d : Bool} {yt : TypeId} [ht : TUn P T .bool] (h : ev E x = some (.bool c)) (hy : ev E y = some (.bool d)) :
    QW P ⟨dst, .binOp .neq T x y yt, ty, pos, after, g⟩ E (.bool (!(c == d))) := fun a n hf w => by
  simp only [execOp, hf.ev h, hf.ev hy, Sem.run_bind, eqGuard_bool, Result.andThen_ok, binOp, run_eqBool, Sem.run_pure]

/-! a test, and the two ways behind it -/
def QC (P : Program) (o : Oper) (E : Env) (p : Prop) : Prop := (p → QW P o E (.bool true)) ∧ (¬ p → QW P o E (.bool false))
theorem qc_eql {k : IntKind} {i j : Int} {yt : TypeId} (h : ev E x = some (.int k i)) (hy : ev E y = some (.int k j)) : QC P ⟨dst, .binOp .eql T x y yt, ty, pos, after, g⟩ E (i = j) :=
  ⟨fun hp => qw_eql_t h hy hp, fun hp => qw_eql_f h hy hp⟩
theorem qc_neq {k : IntKind} {i j : Int} {yt : TypeId} (h : ev E x = some (.int k i)) (hy : ev E y = some (.int k j)) : QC P ⟨dst, .binOp .neq T x y yt, ty, pos, after, g⟩ E (i ≠ j) :=
  ⟨fun hp => qw_neq_t h hy hp, fun hp => qw_neq_f h hy hp⟩
theorem qc_lss {k : IntKind} {i j : Int} {yt : TypeId} (h : ev E x = some (.int k i)) (hy : ev E y = some (.int k j)) : QC P ⟨dst, .binOp .lss T x y yt, ty, pos, after, g⟩ E (i < j) :=
  ⟨fun hp => qw_lss_t h hy hp, fun hp => qw_lss_f h hy hp⟩
theorem qc_leq {k : IntKind} {i j : Int} {yt : TypeId} (h : ev E x = some (.int k i)) (hy : ev E y = some (.int k j)) : QC P ⟨dst, .binOp .leq T x y yt, ty, pos, after, g⟩ E (i ≤ j) :=
  ⟨fun hp => qw_leq_t h hy hp, fun hp => qw_leq_f h hy hp⟩
theorem qc_gtr {k : IntKind} {i j : Int} {yt : TypeId} (h : ev E x = some (.int k i)) (hy : ev E y = some (.int k j)) : QC P ⟨dst, .binOp .gtr T x y yt, ty, pos, after, g⟩ E (j < i) :=
  ⟨fun hp => qw_gtr_t h hy hp, fun hp => qw_gtr_f h hy hp⟩
theorem qc_geq {k : IntKind} {i j : Int} {yt : TypeId} (h : ev E x = some (.int k i)) (hy : ev E y = some (.int k j)) : QC P ⟨dst, .binOp .geq T x y yt, ty, pos, after, g⟩ E (j ≤ i) :=
  ⟨fun hp => qw_geq_t h hy hp, fun hp => qw_geq_f h hy hp⟩
theorem rg_split {Q : Exit → Act → World → Prop} {ops : Array Oper} {o : Oper} {os : List Oper} {d : Nat} {p : Prop} (hw : Wn ops E o) (hd : o.dst = some d) (hn : Nat.blt d n = true) (h : QC P o E p)
    (k1 : p → RG P ops Q os n ((d, .bool true) :: E) O L) (k2 : ¬ p → RG P ops Q os n ((d, .bool false) :: E) O L) : RG P ops Q (o :: os) n E O L := by
  by_cases hp : p
  · exact rg_q hw hd hn (h.1 hp).qr (k1 hp)
  · exact rg_q hw hd hn (h.2 hp).qr (k2 hp)
theorem dg_split {Q : Exit → Act → World → Prop} {ops : Array Oper} {o : Oper} {d : Nat} {p : Prop} {B : List Blk} {i : Nat} {k : Bool} {rest : Scr} (hi : ops[i]? = some o) (hq : quietB o = true) (hw : Wn ops E o) (hd : o.dst = some d) (hn : Nat.blt d n = true) (h : QC P o E p)
    (k1 : p → DG P ops Q rest B n ((d, .bool true) :: E) O L) (k2 : ¬ p → DG P ops Q rest B n ((d, .bool false) :: E) O L) : DG P ops Q (.op i k rest) B n E O L := by
  by_cases hp : p
  · exact dg_w hi hq hw hd hn (h.1 hp) (k1 hp)
  · exact dg_w hi hq hw hd hn (h.2 hp) (k2 hp)
end
end Fw
end Go.Proofs.YthmicniimofagaaGreat
