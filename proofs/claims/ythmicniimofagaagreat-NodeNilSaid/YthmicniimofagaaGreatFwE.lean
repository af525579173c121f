/-
  THE BASE OF THE WALKS (5): append. Condition: the new length times the element's bytes, and the new length, are at most 2^40.
-/
import Derived.Test.YthmicniimofagaaGreatFwD
namespace Go.Proofs.YthmicniimofagaaGreat
namespace Fw
set_option linter.unusedSimpArgs false
variable {P : Program} {n : Nat} {E : Env} {O : Out} {L : List Blk}

/-- A slice that nobody else may append to: nil, or a whole block; its cells. -/
inductive OwnS (e esz : Nat) : Value → List Value → List Blk → Prop
  | nil : OwnS e esz (.slice none 0 0) [] []
  | blk {b len cap : Nat} {cs rest : List Value} (h : cs.length = len * esz) (hr : (cs ++ rest).length = cap * esz) (hle : len ≤ cap) : OwnS e esz (.slice (some ⟨b, 0, none⟩) len cap) cs [(b, .cells (cs ++ rest).toArray e (0, 0))]

/-- What is appended: how many elements, the cells. -/
inductive SrcIs (L : List Blk) (esz : Nat) : Value → Nat → List Value → Prop
  | nil {p : Option Addr} {c : Nat} : SrcIs L esz (.slice p 0 c) 0 []
  | row {b o m c : Nat} {cs : Array Value} {t : TypeId} {fz : Nat × Nat} {xs : List Value} (hm : (b, Obj.cells cs t fz) ∈ L) (hs : Seg cs o xs) (hl : xs.length = m * esz) : SrcIs L esz (.slice (some ⟨b, o, none⟩) m c) m xs
  | str {s : ByteArray} (h1 : esz = 1) : SrcIs L esz (.string s) s.size (s.data.toList.map fun b => .int .u8 b.toNat)

theorem SrcIs.mono {L L' : List Blk} {esz m : Nat} {v : Value} {xs : List Value} (h : SrcIs L esz v m xs) (hs : ∀ p, p ∈ L → p ∈ L') : SrcIs L' esz v m xs := by
  cases h with
  | nil => exact .nil
  | row hm h2 h3 => exact .row (hs _ hm) h2 h3
  | str h1 => exact .str h1

theorem SrcIs.len {L : List Blk} {esz m : Nat} {v : Value} {xs : List Value} (h : SrcIs L esz v m xs) : xs.length = m * esz := by
  cases h with
  | nil => simp
  | row _ _ h => exact h
  | str h => subst h; rw [List.length_map, Nat.mul_one]; rfl

theorem SrcIs.run {esz m : Nat} {v : Value} {xs : List Value} (h : SrcIs L esz v m xs) {w : World} (hh : Has w O L) :
    (Builtin.lenOf v).run P w = .ok m w ∧ (Builtin.firstCells esz m v).run P w = .ok xs.toArray w := by
  cases h with
  | @nil p c =>
    refine ⟨rfl, ?_⟩
    cases p with
    | none => rfl
    | some a => simp [Builtin.firstCells, loadCells, loadCellsFrom]
  | row hm hs hl =>
    refine ⟨rfl, ?_⟩
    simp only [Builtin.firstCells, loadCells, ← hl]
    rw [run_loadCellsFrom (P := P) (vs := xs) xs.length 0 #[] (by simp) (fun j hj => ?_)]
    · simp
    · have h1 := hs j hj
      rw [List.getElem?_eq_getElem hj] at h1 ⊢
      exact hh.cell hm h1
  | str h1 =>
    rename_i s
    refine ⟨rfl, ?_⟩
    have : (s.extract 0 s.size) = s := by
      apply ByteArray.ext
      rw [ByteArray.data_extract]
      exact Array.extract_size
    simp only [Builtin.firstCells, this, Sem.run_pure]
    congr 1
    apply Array.ext'
    simp

class TNoInt (P : Program) (T : Nat) : Prop where
  ok : (match P.underlying T with
    | some (.slice _) => true
    | some .string => true
    | _ => false) = true

theorem run_noInt {T : Nat} [h : TNoInt P T] (w : World) : ∃ d, (underlying T).run P w = .ok d w ∧ ((∃ e, d = .slice e) ∨ d = .string) := by
  have := h.ok
  split at this <;> try cases this
  · rename_i e hu
    exact ⟨_, run_underlying hu w, .inl ⟨e, rfl⟩⟩
  · rename_i hu
    exact ⟨_, run_underlying hu w, .inr rfl⟩

theorem growBy_le (nl : Nat) : ∀ (r c : Nat), c ≤ nl → Builtin.growBy nl r c ≤ 2 * nl + 400
  | 0, c, h => by simp only [Builtin.growBy]; omega
  | r + 1, c, h => by
    simp only [Builtin.growBy]
    split
    · omega
    · by_cases h2 : c + (c + 768) / 4 ≤ nl
      · exact growBy_le nl r _ h2
      · cases r with
        | zero => simp only [Builtin.growBy]; omega
        | succ r => simp only [Builtin.growBy]; rw [if_pos (by omega)]; omega

theorem nextcap_le (nl oc : Nat) (h : oc < nl) : Builtin.nextslicecap nl oc ≤ 2 * nl + 400 := by
  unfold Builtin.nextslicecap
  split
  · omega
  · split
    · omega
    · exact growBy_le nl 4 oc (by omega)

theorem zeroCells_size (z : Array Value) (m : Nat) : (Builtin.zeroCells z m).size = m * z.size := by simp [Builtin.zeroCells]

section
variable {dst : Option Tmp} {ty : TypeId} {pos : String} {after : Array Edge} {g : Option (Nat × Bool)} {x y z : Operand} {v u : Value} {T : Nat}

/-- It fits. -/
theorem run_append_fits {T2 e esz eby b o len cap m : Nat} {at_ : Array TypeId} {xv : Value} {xs : List Value} {cs : Array Value} [ht : TSl P T e esz eby] [TNoInt P T2] (h0 : at_[0]? = some T) (h1 : at_[1]? = some T2)
    {w : World} (hh : Has w O L) (hx : SrcIs L esz xv m xs) (hfit : len + m ≤ cap) (hb : w.heap[b]? = some (.cells cs e (0, 0))) (hsz : o + len * esz + xs.length ≤ cs.size) (hone : ∀ v ∈ xs, v.oneCell' = true) :
    (Builtin.append_ at_ ty #[.slice (some ⟨b, o, none⟩) len cap, xv]).run P w = .ok (.slice (some ⟨b, o, none⟩) (len + m) cap) (setBlk w b (.cells (putAt cs (o + len * esz) xs) e (0, 0))) := by
  obtain ⟨i, hu, hi, hs, _⟩ := ht.get
  obtain ⟨d, hd1, hd2⟩ := run_noInt (P := P) (T := T2) w
  obtain ⟨hx1, hx2⟩ := hx.run (P := P) hh
  have hst := run_storeCells (P := P) xs (o + len * esz) 0 cs w hb (by simpa using hsz) hone
  rcases hd2 with ⟨e2, rfl⟩ | rfl
  all_goals
    unfold Builtin.append_
    simp only [h0, h1, List.getElem?_toArray, List.getElem?_cons_zero, List.getElem?_cons_succ, Sem.run_bind, run_underlying hu, Result.andThen_ok, run_sizeOf' hi, hs, hd1, Sem.run_pure, Bool.false_eq_true, if_false, hx1, hfit, if_true, Bool.not_false, hx2, add_at]
    simp [hst]

/-- It grows. -/
theorem run_append_grows {T2 e esz eby len cap m : Nat} {at_ : Array TypeId} {base : Option Addr} {xv zv : Value} {cs xs : List Value} [ht : TSl P T e esz eby] [hz : TZero P e zv] [TNoInt P T2] (h0 : at_[0]? = some T) (h1 : at_[1]? = some T2)
    {w : World} (hh : Has w O L) (hx : SrcIs L esz xv m xs) (hg : cap < len + m) (hs0 : (Builtin.firstCells esz len (.slice base len cap)).run P w = .ok cs.toArray w) (hzc : zv.cells.size = esz) (hcs : cs.length = len * esz)
    (hmax : (len + m) * eby ≤ 1099511627776) (hmax' : len + m ≤ 1099511627776) (hby : eby ≤ 1099511627776 / 400) :
    ∃ nc rest, (Builtin.append_ at_ ty #[.slice base len cap, xv]).run P w = .ok (.slice (some ⟨w.heap.size, 0, none⟩) (len + m) nc) { w with heap := w.heap.push (.cells (cs ++ xs ++ rest).toArray e (0, 0)), drawn := w.drawn + 1 } ∧
      (cs ++ xs ++ rest).length = nc * esz ∧ len + m ≤ nc := by
  obtain ⟨i, hu, hi, hs, hb⟩ := ht.get
  obtain ⟨d, hd1, hd2⟩ := run_noInt (P := P) (T := T2) w
  obtain ⟨hx1, hx2⟩ := hx.run (P := P) hh
  have hnext := nextcap_le (len + m) cap hg
  have hlim : ¬ (Builtin.nextslicecap (len + m) cap * eby > 2 ^ 48) := by
    have : Builtin.nextslicecap (len + m) cap * eby ≤ (2 * (len + m) + 400) * eby := Nat.mul_le_mul_right _ hnext
    have h3 : (2 * (len + m) + 400) * eby = 2 * ((len + m) * eby) + 400 * eby := by rw [Nat.add_mul, Nat.mul_assoc]
    omega
  let nc := (Question.appendCap (len + m) cap e).cut (w.tape w.drawn (Question.appendCap (len + m) cap e))
  have hnc : len + m ≤ nc := by simp only [nc, Question.cut]; omega
  refine ⟨nc, (Builtin.zeroCells zv.cells (nc - (len + m))).toList, ?_, ?_, hnc⟩
  · have hsz0 : (Builtin.firstCells esz len (.slice base len cap)).run P { w with drawn := w.drawn + 1 } = .ok cs.toArray { w with drawn := w.drawn + 1 } := by
      have key : ∀ (a : Addr) (k i : Nat) (acc : Array Value) (r : Array Value), (loadCellsFrom a i k acc).run P w = .ok r w → (loadCellsFrom a i k acc).run P { w with drawn := w.drawn + 1 } = .ok r { w with drawn := w.drawn + 1 } := by
        intro a k
        induction k with
        | zero => intro i acc r h; simp only [loadCellsFrom, Sem.run_pure, Result.ok.injEq] at h ⊢; exact ⟨h.1, trivial⟩
        | succ k ih =>
          intro i acc r h
          simp only [loadCellsFrom, Sem.run_bind, run_load] at h ⊢
          have hc : World.cell? { w with drawn := w.drawn + 1 } (a.add i) = w.cell? (a.add i) := rfl
          have hfar : World.farLoad P { w with drawn := w.drawn + 1 } (a.add i) (Mode.plain == Mode.atomic) = World.farLoad P w (a.add i) (Mode.plain == Mode.atomic) := rfl
          rw [hc, hfar]
          cases hq : w.cell? (a.add i) with
          | some v => rw [hq] at h; exact ih _ _ _ h
          | none =>
            rw [hq] at h
            simp only at h ⊢
            cases hq2 : World.farLoad P w (a.add i) (Mode.plain == Mode.atomic) with
            | error e => rw [hq2] at h; simp at h
            | ok p => rw [hq2] at h; exact ih _ _ _ h
      cases base with
      | none => simp only [Builtin.firstCells, Sem.run_pure, Result.ok.injEq] at hs0 ⊢; exact ⟨hs0.1, trivial⟩
      | some a => exact key _ _ _ _ _ hs0
    obtain ⟨_, hx3⟩ := hx.run (P := P) hh.drew
    have hneed : ¬ (len + m ≤ cap) := by omega
    have himax : ¬ (((len + m : Nat) : Int) > IntKind.i64.max ∧ (false = true ∨ eby = 0)) := by
      have : IntKind.i64.max = 9223372036854775807 := by rfl
      omega
    have hti : (typeInfo e).run P w = .ok i w := by simp [typeInfo, hi]
    have himax' : ¬ (((len + m : Nat) : Int) > IntKind.i64.max ∧ (False ∨ i.bytes = 0)) := by
      rw [hb]; exact fun h => himax ⟨h.1, h.2.imp (fun h => h.elim) id⟩
    rw [← hb] at hlim
    have hti2 : (typeInfo e).run P { w with drawn := w.drawn + 1 } = .ok i { w with drawn := w.drawn + 1 } := by simp [typeInfo, hi]
    have hfo : (Question.appendCap (len + m) cap e).forced = false := rfl
    have himax2 : ¬ (((len + m : Nat) : Int) > IntKind.i64.max ∧ (false = true ∨ i.bytes = 0)) := fun h => himax' ⟨h.1, h.2.imp (fun h => by cases h) id⟩
    rcases hd2 with ⟨e2, rfl⟩ | rfl
    all_goals
      unfold Builtin.append_
      simp only [h0, h1, List.getElem?_toArray, List.getElem?_cons_zero, List.getElem?_cons_succ, Sem.run_bind, run_underlying hu, Result.andThen_ok, run_sizeOf' hi, hs, hd1, Sem.run_pure, if_false, hx1, hneed, Bool.false_eq_true, Bool.not_false, if_true, Sem.run_ite, hti, himax', hlim, run_choose, hfo, hti2, run_askRoom, hsz0, hx3, run_zero, newRow, run_newObj]
      simp only [nc]
      congr 4
      apply Array.ext'
      simp
  · have h5 := hx.len
    rw [List.length_append, List.length_append, hcs, h5, Array.length_toList, zeroCells_size, hzc, ← Nat.add_mul, ← Nat.add_mul]
    congr 1
    omega

/-- append to a slice that nobody else appends to. -/
theorem ev_append {T2 e esz eby m : Nat} {at_ : Array TypeId} {B R : List Blk} {sv xv zv : Value} {cs xs : List Value} {ar : List Operand} [ht : TSl P T e esz eby] [hz : TZero P e zv] [TNoInt P T2]
    (ha : EvAll E ar [sv, xv]) (h0 : at_[0]? = some T) (h1 : at_[1]? = some T2) (hs : OwnS e esz sv cs B) (hp : (B ++ R).Perm L) (hx : SrcIs R esz xv m xs) (hzc : zv.cells.size = esz) (hone : ∀ v ∈ xs, v.oneCell' = true)
    (hmax : (cs.length + xs.length) * eby ≤ 1099511627776 * esz) (hmax' : cs.length + xs.length ≤ 1099511627776) (hpos : 0 < esz) (hby : eby ≤ 1099511627776 / 400) :
    EV P ⟨dst, .call { callee := .builtin .append, args := ar.toArray, argTypes := at_ }, ty, pos, after, g⟩ n E O L fun u L' => ∃ B', OwnS e esz u (cs ++ xs) B' ∧ L' = B' ++ R := by
  intro a w hf hh0 K Q hk
  have hh := hh0.perm hp
  have hargs := ha.map hf
  have hxl := hx.len
  have hxB : SrcIs (B ++ R) esz xv m xs := hx.mono fun p hp => List.mem_append_right _ hp
  have hR : Has w O R := hh.sub (List.sublist_append_right _ _)
  have hexec : ∀ (r : Result Value), (Builtin.append_ at_ ty #[sv, xv]).run P w = r →
      (execOp a.eval ⟨dst, .call { callee := .builtin .append, args := ar.toArray, argTypes := at_ }, ty, pos, after, g⟩).run P w = r.andThen fun v w' => .ok (.value v) w' := by
    intro r hr
    have : (ar.toArray.map a.eval) = #[sv, xv] := by simp [hargs]
    simp [execOp, resolve, this, invoke, builtin, hr]
  unfold Oper.wp
  have grow : ∀ (base : Option Addr) (len cap : Nat), sv = .slice base len cap → cs.length = len * esz → cap < len + m → (Builtin.firstCells esz len (.slice base len cap)).run P w = .ok cs.toArray w →
      Oper.upon P ⟨dst, .call { callee := .builtin .append, args := ar.toArray, argTypes := at_ }, ty, pos, after, g⟩ a K Q ((execOp a.eval ⟨dst, .call { callee := .builtin .append, args := ar.toArray, argTypes := at_ }, ty, pos, after, g⟩).run P w) := by
    intro base len cap hsv hcs hg hfc
    have hsum : cs.length + xs.length = (len + m) * esz := by rw [hcs, hxl, Nat.add_mul]
    have hm1 : (len + m) * eby ≤ 1099511627776 := by
      rw [hsum] at hmax
      have : (len + m) * esz * eby = (len + m) * eby * esz := by rw [Nat.mul_assoc, Nat.mul_comm esz eby, ← Nat.mul_assoc]
      rw [this] at hmax
      exact Nat.le_of_mul_le_mul_right hmax hpos
    have hm2 : len + m ≤ 1099511627776 := by
      have : len + m ≤ (len + m) * esz := Nat.le_mul_of_pos_right _ hpos
      omega
    subst hsv
    obtain ⟨nc, rest, hrun, hlen, hle⟩ := run_append_grows (P := P) (T := T) (T2 := T2) (ty := ty) h0 h1 hh hxB hg hfc hzc hcs hm1 hm2 hby
    rw [hexec _ hrun]
    simp only [Result.andThen_ok, Oper.upon]
    refine hk _ _ ([(w.heap.size, .cells (cs ++ xs ++ rest).toArray e (0, 0))] ++ R) ?_ ⟨_, .blk (by rw [List.length_append, hsum]) hlen hle, rfl⟩
    have := (hR.alloc (.cells (cs ++ xs ++ rest).toArray e (0, 0))).drew
    exact this
  cases hs with
  | nil =>
    by_cases hm : m = 0
    · subst hm
      have hx0 : xs = [] := List.eq_nil_of_length_eq_zero (by rw [hxl]; simp)
      obtain ⟨i, hu, hi, hsz, hb⟩ := ht.get
      obtain ⟨d, hd1, hd2⟩ := run_noInt (P := P) (T := T2) w
      obtain ⟨hx1, hx2⟩ := hxB.run (P := P) hh
      have hrun : (Builtin.append_ at_ ty #[.slice none 0 0, xv]).run P w = .ok (.slice none 0 0) w := by
        rcases hd2 with ⟨e2, rfl⟩ | rfl
        all_goals
          unfold Builtin.append_
          simp only [h0, h1, List.getElem?_toArray, List.getElem?_cons_zero, List.getElem?_cons_succ, Sem.run_bind, run_underlying hu, Result.andThen_ok, run_sizeOf' hi, hsz, hd1, Sem.run_pure, Bool.false_eq_true, if_false, hx1, Nat.add_zero, Nat.le_refl, if_true, Bool.not_false, hx2]
      rw [hexec _ hrun]
      simp only [Result.andThen_ok, Oper.upon]
      exact hk _ _ R hR ⟨[], by rw [hx0]; exact .nil, rfl⟩
    · exact grow none 0 0 rfl (by simp) (by omega) rfl
  | @blk b len cap cs rest hcs hr hle =>
    by_cases hfit : len + m ≤ cap
    · have hb := hh.all b _ (List.mem_append_left _ List.mem_cons_self)
      have hroom : 0 + len * esz + xs.length ≤ (cs ++ rest).toArray.size := by
        simp only [List.size_toArray, hr, hxl, Nat.zero_add, ← Nat.add_mul]
        exact Nat.mul_le_mul_right _ hfit
      have hrun := run_append_fits (P := P) (T := T) (T2 := T2) (ty := ty) (o := 0) h0 h1 hh hxB hfit hb hroom hone
      rw [hexec _ hrun]
      simp only [Result.andThen_ok, Oper.upon]
      have hput : putAt (cs ++ rest).toArray (0 + len * esz) xs = (cs ++ xs ++ rest.drop xs.length).toArray := by
        have gen : ∀ (xs pre rest : List Value), xs.length ≤ rest.length → putAt (pre ++ rest).toArray pre.length xs = (pre ++ xs ++ rest.drop xs.length).toArray := by
          intro xs
          induction xs with
          | nil => intro pre rest _; simp [putAt]
          | cons v xs ih =>
            intro pre rest hl
            cases rest with
            | nil => simp at hl
            | cons r rest =>
              simp only [putAt]
              have h6 : (pre ++ r :: rest).toArray.setIfInBounds pre.length v = ((pre ++ [v]) ++ rest).toArray := by simp
              have h7 := ih (pre ++ [v]) rest (by simpa using hl)
              rw [h6, show pre.length + 1 = (pre ++ [v]).length from by simp, h7]
              simp
        have h8 := gen xs cs rest (by
          have : cs.length + rest.length = cap * esz := by simpa using hr
          have h9 : (len + m) * esz ≤ cap * esz := Nat.mul_le_mul_right _ hfit
          rw [Nat.add_mul] at h9
          omega)
        rw [Nat.zero_add, ← hcs]; exact h8
      rw [hput]
      have hu : Upd b (.cells (cs ++ rest).toArray e (0, 0)) (.cells (cs ++ xs ++ rest.drop xs.length).toArray e (0, 0)) ([(b, Obj.cells (cs ++ rest).toArray e (0, 0))] ++ R) ([(b, Obj.cells (cs ++ xs ++ rest.drop xs.length).toArray e (0, 0))] ++ R) := .here
      refine hk _ _ _ (hu.has hh) ⟨_, .blk (by rw [List.length_append, hcs, hxl, Nat.add_mul]) ?_ hfit, rfl⟩
      have h10 : cs.length + rest.length = cap * esz := by simpa using hr
      have h9 : (len + m) * esz ≤ cap * esz := Nat.mul_le_mul_right _ hfit
      rw [Nat.add_mul] at h9
      simp only [List.length_append, List.length_drop]
      omega
    · refine grow _ len cap rfl hcs (by omega) ?_
      have : SrcIs ([(b, Obj.cells (cs ++ rest).toArray e (0, 0))] ++ R) esz (.slice (some ⟨b, 0, none⟩) len cap) len cs :=
        .row (List.mem_append_left _ List.mem_cons_self) (fun j hj => by simp [List.getElem?_append, hj]) hcs
      exact (this.run (P := P) hh).2

theorem pull (xs B R : List Blk) : (B ++ (xs ++ R)).Perm (xs ++ (B ++ R)) := by
  rw [← List.append_assoc, ← List.append_assoc]
  exact List.Perm.append_right R List.perm_append_comm
end
end Fw
end Go.Proofs.YthmicniimofagaaGreat
