/-
  THE BASE OF THE WALKS (O): maps under strings, entry by entry. No condition beyond the sizes.
-/
import Derived.Test.YthmicniimofagaaGreatFwN
import Derived.Test.YthmicniimofagaaGreatFwJ
namespace Go.Proofs.YthmicniimofagaaGreat
namespace Fw
open MapKept
open Go.Proofs (encStr)
set_option linter.unusedSimpArgs false
variable {P : Program} {n : Nat} {E : Env} {O : Out} {L : List Blk} {dst : Option Tmp} {T ty : TypeId} {pos : String} {after : Array Edge} {g : Option (Nat × Bool)} {x y z : Operand} {v : Value} {γ δ : Type}

/-! ### lists of names with what they have -/
def hasG (l : List (Bytes × γ)) (k : Bytes) : Bool := l.any fun p => decide (p.1 = k)
def getG (l : List (Bytes × γ)) (k : Bytes) : Option γ := (l.find? fun p => decide (p.1 = k)).map (·.2)
def putG (l : List (Bytes × γ)) (k : Bytes) (c : γ) : List (Bytes × γ) := if hasG l k = true then l.map (fun p => if p.1 = k then (k, c) else p) else l ++ [(k, c)]
def delG (l : List (Bytes × γ)) (k : Bytes) : List (Bytes × γ) := l.filter fun p => decide (p.1 ≠ k)
theorem hasG_iff {l : List (Bytes × γ)} {k : Bytes} : hasG l k = true ↔ k ∈ l.map Prod.fst := by
  unfold hasG
  rw [List.any_eq_true, List.mem_map]
  constructor
  · rintro ⟨p, hp, h⟩; exact ⟨p, hp, of_decide_eq_true h⟩
  · rintro ⟨p, hp, h⟩; exact ⟨p, hp, decide_eq_true h⟩
theorem getG_none {l : List (Bytes × γ)} {k : Bytes} : getG l k = none ↔ k ∉ l.map Prod.fst := by
  unfold getG
  rw [Option.map_eq_none_iff, List.find?_eq_none, List.mem_map]
  constructor
  · rintro h ⟨p, hp, hk⟩; exact h p hp (decide_eq_true hk)
  · intro h p hp hk; exact h ⟨p, hp, of_decide_eq_true hk⟩
theorem getG_some {l : List (Bytes × γ)} {k : Bytes} {c : γ} (hnd : (l.map Prod.fst).Nodup) : getG l k = some c ↔ (k, c) ∈ l := by
  induction l with
  | nil => simp [getG]
  | cons p l ih =>
    obtain ⟨k', c'⟩ := p
    simp only [List.map_cons, List.nodup_cons] at hnd
    have ih := ih hnd.2
    unfold getG at ih ⊢
    by_cases h : k' = k
    · subst h
      simp only [List.find?_cons, decide_true, Option.map_some, Option.some.injEq, List.mem_cons, Prod.mk.injEq, true_and]
      constructor
      · rintro rfl; exact .inl rfl
      · rintro (h | h)
        · exact h.symm
        · exact absurd (List.mem_map_of_mem (f := Prod.fst) h) hnd.1
    · simp only [List.find?_cons, h, decide_false, List.mem_cons, Prod.mk.injEq]
      rw [ih]
      constructor
      · exact .inr
      · rintro (⟨h2, _⟩ | h2)
        · exact absurd h2.symm h
        · exact h2
theorem getG_has {l : List (Bytes × γ)} {k : Bytes} : (getG l k).isSome = hasG l k := by
  cases h : getG l k with
  | none =>
    have := getG_none.1 h
    cases h2 : hasG l k with
    | false => rfl
    | true => exact absurd (hasG_iff.1 h2) this
  | some c =>
    cases h2 : hasG l k with
    | true => rfl
    | false =>
      have : getG l k = none := getG_none.2 fun h3 => by rw [hasG_iff.2 h3] at h2; cases h2
      rw [this] at h; cases h
theorem putG_keys {l : List (Bytes × γ)} {k : Bytes} {c : γ} : (putG l k c).map Prod.fst = if hasG l k = true then l.map Prod.fst else l.map Prod.fst ++ [k] := by
  unfold putG
  split
  · rw [List.map_map]
    refine List.map_congr_left fun p _ => ?_
    show (if p.1 = k then (k, c) else p).1 = p.1
    split
    · rename_i h; exact h.symm
    · rfl
  · simp
theorem putG_nd {l : List (Bytes × γ)} {k : Bytes} {c : γ} (h : (l.map Prod.fst).Nodup) : ((putG l k c).map Prod.fst).Nodup := by
  rw [putG_keys]
  split
  · exact h
  · rename_i h2
    rw [List.nodup_append]
    refine ⟨h, by simp, fun a ha b hb => ?_⟩
    have : b = k := by simpa using hb
    subst this
    rintro rfl
    exact h2 (hasG_iff.2 ha)
theorem delG_nd {l : List (Bytes × γ)} {k : Bytes} (h : (l.map Prod.fst).Nodup) : ((delG l k).map Prod.fst).Nodup :=
  List.Nodup.sublist (List.Sublist.map _ (List.filter_sublist)) h
theorem mem_putG {l : List (Bytes × γ)} {k k' : Bytes} {c c' : γ} : (k', c') ∈ putG l k c ↔ (k' = k ∧ c' = c) ∨ (k' ≠ k ∧ (k', c') ∈ l) := by
  unfold putG
  split
  · rename_i h
    rw [List.mem_map]
    constructor
    · rintro ⟨p, hp, he⟩
      split at he
      · cases he; exact .inl ⟨rfl, rfl⟩
      · rename_i h2; subst he; exact .inr ⟨h2, hp⟩
    · rintro (⟨rfl, rfl⟩ | ⟨h2, h3⟩)
      · obtain ⟨p, hp, he⟩ := List.mem_map.1 (hasG_iff.1 h)
        exact ⟨p, hp, by rw [if_pos he]⟩
      · exact ⟨_, h3, by rw [if_neg h2]⟩
  · rename_i h
    rw [List.mem_append, List.mem_singleton, Prod.mk.injEq]
    constructor
    · rintro (h2 | h2)
      · exact .inr ⟨fun he => h (hasG_iff.2 (he ▸ List.mem_map_of_mem (f := Prod.fst) h2)), h2⟩
      · exact .inl h2
    · rintro (h2 | ⟨_, h2⟩)
      · exact .inr h2
      · exact .inl h2
theorem mem_delG {l : List (Bytes × γ)} {k k' : Bytes} {c' : γ} : (k', c') ∈ delG l k ↔ k' ≠ k ∧ (k', c') ∈ l := by
  unfold delG
  rw [List.mem_filter]
  constructor
  · rintro ⟨h1, h2⟩; exact ⟨of_decide_eq_true h2, h1⟩
  · rintro ⟨h1, h2⟩; exact ⟨h2, decide_eq_true h1⟩
theorem mapG_has (f : γ → δ) (l : List (Bytes × γ)) (k : Bytes) : hasG (l.map fun p => (p.1, f p.2)) k = hasG l k := by
  unfold hasG
  rw [List.any_map]
  rfl
theorem mapG_put (f : γ → δ) (l : List (Bytes × γ)) (k : Bytes) (c : γ) : (putG l k c).map (fun p => (p.1, f p.2)) = putG (l.map fun p => (p.1, f p.2)) k (f c) := by
  unfold putG
  rw [mapG_has]
  split
  · rw [List.map_map, List.map_map]
    refine List.map_congr_left fun p _ => ?_
    simp only [Function.comp]
    split <;> rfl
  · simp
theorem mapG_del (f : γ → δ) (l : List (Bytes × γ)) (k : Bytes) : (delG l k).map (fun p => (p.1, f p.2)) = delG (l.map fun p => (p.1, f p.2)) k := by
  unfold delG
  rw [List.filter_map]
  rfl
theorem mapG_get (f : γ → δ) (l : List (Bytes × γ)) (k : Bytes) : getG (l.map fun p => (p.1, f p.2)) k = (getG l k).map f := by
  unfold getG
  rw [List.find?_map]
  simp only [Option.map_map]
  rfl

/-! ### the map's entries -/
structure MapS (es : Array MapEntry) (c : Nat) (val : γ → Value) (ms : List (Bytes × γ)) : Prop where
  nd : (ms.map Prod.fst).Nodup
  eq : es.toList.map (fun e => (e.key, e.val)) = ms.map fun t => (encStr t.1, val t.2)
  young : ∀ e ∈ es.toList, e.born < c
  apart : (es.toList.map (·.born)).Nodup
theorem MapS.nil {val : γ → Value} : MapS #[] 0 val [] := ⟨by simp, rfl, fun e h => by simp at h, by simp⟩
theorem encStr_inj' {a b : Bytes} (h : encStr a = encStr b) : a = b := by simpa [encStr] using h
variable {es : Array MapEntry} {c : Nat} {val : γ → Value} {ms : List (Bytes × γ)}
theorem MapS.len (h : MapS es c val ms) : es.toList.length = ms.length := by
  have := congrArg List.length h.eq
  simpa using this
theorem MapS.size (h : MapS es c val ms) : es.size = ms.length := by rw [← h.len, Array.length_toList]
theorem MapS.at (h : MapS es c val ms) {j : Nat} {e : MapEntry} (hj : es.toList[j]? = some e) : ∃ t, ms[j]? = some t ∧ e.key = encStr t.1 ∧ e.val = val t.2 := by
  have h1 := congrArg (fun l => l[j]?) h.eq
  simp only [List.getElem?_map, hj, Option.map_some] at h1
  cases ht : ms[j]? with
  | none => rw [ht] at h1; cases h1
  | some t =>
    rw [ht] at h1
    simp only [Option.map_some, Option.some.injEq, Prod.mk.injEq] at h1
    exact ⟨t, rfl, h1.1, h1.2⟩
theorem MapS.keys (h : MapS es c val ms) : ∀ e ∈ es.toList, IsKey .string e.key := by
  intro e he
  obtain ⟨j, hj⟩ := List.mem_iff_getElem?.1 he
  obtain ⟨t, _, h2, _⟩ := h.at hj
  rw [h2]; trivial
theorem MapS.find (h : MapS es c val ms) (k : Bytes) :
    (Instr.findNow .string (encStr k) es.toList 0 = some none ∧ getG ms k = none) ∨ ∃ j e t, Instr.findNow .string (encStr k) es.toList 0 = some (some (j, e.val)) ∧ es.toList[j]? = some e ∧ ms[j]? = some t ∧ t.1 = k ∧ e.key = encStr k ∧ e.val = val t.2 ∧ getG ms k = some t.2 := by
  rcases findNow_spec (d := .string) (k := encStr k) trivial es.toList 0 h.keys with ⟨h1, h2⟩ | ⟨j, e, h1, h2, h3⟩
  · refine .inl ⟨h1, getG_none.2 fun hm => ?_⟩
    obtain ⟨t, ht, rfl⟩ := List.mem_map.1 hm
    have : (encStr t.1, val t.2) ∈ es.toList.map fun e => (e.key, e.val) := by rw [h.eq]; exact List.mem_map.2 ⟨t, ht, rfl⟩
    obtain ⟨e, he, hq⟩ := List.mem_map.1 this
    exact h2 e he (congrArg Prod.fst hq)
  · obtain ⟨t, ht, hk, hv⟩ := h.at h2
    have hkt : t.1 = k := encStr_inj' (hk.symm.trans h3)
    refine .inr ⟨j, e, t, by rw [Nat.zero_add] at h1; exact h1, h2, ht, hkt, h3, hv, (getG_some h.nd).2 ?_⟩
    rw [← hkt]; exact List.mem_of_getElem? ht

theorem qr_lookupS {b : Nat} {kt et : TypeId} {zv : Value} {k : Bytes} [ht : TUn P T (.map kt et)] [hkt : TUn P kt .string] [hz : TZero P et zv]
    (h : ev E x = some (.map (some b))) (hy : ev E y = some (encStr k)) (hm : (b, Obj.map es c) ∈ L) (ho : MapS es c val ms) :
    QR P ⟨dst, .lookup T x y false, ty, pos, after, g⟩ E O L (((getG ms k).map val).getD zv) := fun a n hf w hh => by
  have hb := hh.all _ _ hm
  have hk : IsKey .string (encStr k) := trivial
  rcases ho.find k with ⟨h1, h2⟩ | ⟨j, e, t, h1, _, _, _, _, h3, h2⟩
  · simp [execOp, hf.ev h, hf.ev hy, Instr.lookup, run_underlying ht.ok, MapKept.run_getObj_map hb, run_checkKey hkt.ok hk, run_findKey hkt.ok h1, run_zero, Result.andThen, h2]
  · simp [execOp, hf.ev h, hf.ev hy, Instr.lookup, run_underlying ht.ok, MapKept.run_getObj_map hb, run_checkKey hkt.ok hk, run_findKey hkt.ok h1, Result.andThen, h2, h3]
theorem qr_lookupS2 {b : Nat} {kt et : TypeId} {zv : Value} {k : Bytes} [ht : TUn P T (.map kt et)] [hkt : TUn P kt .string] [hz : TZero P et zv]
    (h : ev E x = some (.map (some b))) (hy : ev E y = some (encStr k)) (hm : (b, Obj.map es c) ∈ L) (ho : MapS es c val ms) :
    QR P ⟨dst, .lookup T x y true, ty, pos, after, g⟩ E O L (.tuple #[((getG ms k).map val).getD zv, .bool (getG ms k).isSome]) := fun a n hf w hh => by
  have hb := hh.all _ _ hm
  have hk : IsKey .string (encStr k) := trivial
  rcases ho.find k with ⟨h1, h2⟩ | ⟨j, e, t, h1, _, _, _, _, h3, h2⟩
  · simp [execOp, hf.ev h, hf.ev hy, Instr.lookup, run_underlying ht.ok, MapKept.run_getObj_map hb, run_checkKey hkt.ok hk, run_findKey hkt.ok h1, run_zero, Result.andThen, h2]
  · simp [execOp, hf.ev h, hf.ev hy, Instr.lookup, run_underlying ht.ok, MapKept.run_getObj_map hb, run_checkKey hkt.ok hk, run_findKey hkt.ok h1, Result.andThen, h2, h3]
theorem MapS.push (ho : MapS es c val ms) {k : Bytes} {t : γ} (hno : getG ms k = none) : MapS (es.push ⟨encStr k, val t, c⟩) (c + 1) val (putG ms k t) := by
  have hn : ¬ hasG ms k = true := by rw [← getG_has, hno]; simp
  refine ⟨putG_nd ho.nd, ?_, ?_, ?_⟩
  · unfold putG
    rw [if_neg hn, Array.toList_push, List.map_append, ho.eq, List.map_append]
    rfl
  · intro e he
    simp only [Array.toList_push, List.mem_append, List.mem_singleton] at he
    rcases he with he | rfl
    · have := ho.young e he; omega
    · exact Nat.lt_succ_self c
  · rw [Array.toList_push, List.map_append, List.nodup_append]
    refine ⟨ho.apart, by simp, fun a ha b hb => ?_⟩
    have : b = c := by simpa using hb
    subst this
    obtain ⟨e, he, rfl⟩ := List.mem_map.1 ha
    have := ho.young e he
    omega
theorem MapS.modify (ho : MapS es c val ms) {k : Bytes} {t : γ} {j : Nat} {e0 : MapEntry} {t0 : Bytes × γ} (hj : es.toList[j]? = some e0) (ht : ms[j]? = some t0) (h0 : t0.1 = k) (hg : getG ms k = some t0.2) :
    MapS (es.modify j fun e => { e with key := encStr k, val := val t }) c val (putG ms k t) := by
  have hn : hasG ms k = true := by rw [← getG_has, hg]; rfl
  have hj' : es[j]? = some e0 := by simpa using hj
  have hlt : j < es.size := (Array.getElem?_eq_some_iff.1 hj').1
  have hej : es[j] = e0 := by
    rw [Array.getElem?_eq_getElem hlt] at hj'
    exact Option.some.inj hj'
  have hl : (es.modify j fun e => { e with key := encStr k, val := val t }).toList = es.toList.set j { e0 with key := encStr k, val := val t } := by
    apply List.ext_getElem?
    intro i
    simp only [Array.getElem?_toList, Array.getElem?_modify, List.getElem?_set, Array.length_toList, hlt, if_true]
    by_cases hij : j = i
    · subst hij; simp [hlt, hej]
    · simp [hij]
  have hml : putG ms k t = ms.set j (k, t) := by
    unfold putG
    rw [if_pos hn]
    apply List.ext_getElem?
    intro i
    rw [List.getElem?_map, List.getElem?_set]
    obtain ⟨hjl, hje⟩ := List.getElem?_eq_some_iff.1 ht
    by_cases hij : j = i
    · subst hij
      rw [ht, if_pos rfl, if_pos hjl, Option.map_some, if_pos h0]
    · simp only [hij, if_false]
      cases hi : ms[i]? with
      | none => rfl
      | some p =>
        have : p.1 ≠ k := by
          intro hp
          obtain ⟨hil, hie⟩ := List.getElem?_eq_some_iff.1 hi
          have h1 : (ms.map Prod.fst)[i]'(by simpa using hil) = (ms.map Prod.fst)[j]'(by simpa using hjl) := by simp [hie, hje, hp, h0]
          exact hij ((List.getElem_inj ho.nd).1 h1).symm
        simp [this]
  refine ⟨putG_nd ho.nd, ?_, ?_, ?_⟩
  · rw [hl, hml, List.map_set, List.map_set, ho.eq]
  · intro e he
    rw [hl] at he
    rcases List.mem_or_eq_of_mem_set he with he | rfl
    · exact ho.young e he
    · exact ho.young e0 (List.mem_of_getElem? hj)
  · rw [hl, List.map_set]
    have : (es.toList.map (·.born)).set j e0.born = es.toList.map (·.born) := by
      apply List.ext_getElem?
      intro i
      rw [List.getElem?_set]
      by_cases hij : j = i
      · subst hij; simp [hlt, hej]
      · simp [hij]
    rw [this]; exact ho.apart
theorem ev_mapUpdateS {b : Nat} {kt et : TypeId} {k : Bytes} {t : γ} {L' : Array MapEntry → Nat → List Blk} [ht : TUn P T (.map kt et)] [hkt : TUn P kt .string]
    (h : ev E x = some (.map (some b))) (hy : ev E y = some (encStr k)) (hz : ev E z = some (val t)) (ho : MapS es c val ms) (hu : ∀ es' c', Upd b (.map es c) (.map es' c') L (L' es' c')) :
    EV P ⟨dst, .mapUpdate T x y z, ty, pos, after, g⟩ n E O L fun u L1 => u = undef ∧ ∃ es' c', L1 = L' es' c' ∧ MapS es' c' val (putG ms k t) := fun a w hf hh K Q hK => by
  have hb := hh.all _ _ (hu es c).mem
  have hk : IsKey .string (encStr k) := trivial
  have key1 : ∃ es' c', (Instr.mapUpdate T (.map (some b)) (encStr k) (val t)).run P w = .ok () (setBlk w b (.map es' c')) ∧ MapS es' c' val (putG ms k t) := by
    rcases ho.find k with ⟨h1, h2⟩ | ⟨j, e, t0, h1, h4, h5, h6, h7, h3, h2⟩
    · refine ⟨es.push ⟨encStr k, val t, c⟩, c + 1, ?_, ho.push h2⟩
      simp [Instr.mapUpdate, run_underlying ht.ok, MapKept.run_getObj_map hb, run_checkKey hkt.ok hk, run_findKey hkt.ok h1, MapKept.run_setObj_map _ hb, Result.andThen, setBlk]
    · have hj : es[j]? = some e := by simpa using h4
      refine ⟨es.modify j (fun e => { e with key := encStr k, val := val t }), c, ?_, ho.modify h4 h5 h6 h2⟩
      simp [Instr.mapUpdate, run_underlying ht.ok, MapKept.run_getObj_map hb, run_checkKey hkt.ok hk, run_findKey hkt.ok h1, hj, h7, run_keyThatStays hk, MapKept.run_setObj_map _ hb, Result.andThen, setBlk]
  obtain ⟨es', c', hrun, hok⟩ := key1
  have : (execOp a.eval ⟨dst, .mapUpdate T x y z, ty, pos, after, g⟩).run P w = .ok .skip (setBlk w b (.map es' c')) := by
    simp [execOp, hf.ev h, hf.ev hy, hf.ev hz, hrun]
  unfold Oper.wp
  rw [this]
  exact hK undef _ _ ((hu es' c').has hh) ⟨rfl, es', c', rfl, hok⟩
theorem map_erase {α β : Type} (f : α → β) : ∀ (l : List α) (j : Nat), (l.eraseIdx j).map f = (l.map f).eraseIdx j
  | [], _ => rfl
  | _ :: _, 0 => rfl
  | x :: l, j + 1 => by rw [List.eraseIdx_cons_succ, List.map_cons, List.map_cons, List.eraseIdx_cons_succ, map_erase f l j]
theorem MapS.erase (ho : MapS es c val ms) {k : Bytes} {j : Nat} {t0 : Bytes × γ} (ht : ms[j]? = some t0) (h0 : t0.1 = k) : MapS (es.eraseIdxIfInBounds j) c val (delG ms k) := by
  obtain ⟨hjl, hje⟩ := List.getElem?_eq_some_iff.1 ht
  have hlt : j < es.size := by rw [ho.size]; exact hjl
  have hl : (es.eraseIdxIfInBounds j).toList = es.toList.eraseIdx j := by
    unfold Array.eraseIdxIfInBounds
    rw [dif_pos hlt, Array.toList_eraseIdx]
  have hml : delG ms k = ms.eraseIdx j := by
    have key : ∀ (l : List (Bytes × γ)) (j : Nat) (h : j < l.length), (l.map Prod.fst).Nodup → l[j].1 = k → delG l k = l.eraseIdx j := by
      intro l
      induction l with
      | nil => intro j h; simp at h
      | cons p l ih =>
        intro j h hnd hk
        simp only [List.map_cons, List.nodup_cons] at hnd
        cases j with
        | zero =>
          simp only [List.getElem_cons_zero] at hk
          unfold delG
          rw [List.filter_cons, if_neg (by simp [hk]), List.eraseIdx_cons_zero, List.filter_eq_self]
          intro q hq
          refine decide_eq_true fun hqk => hnd.1 ?_
          rw [hk, ← hqk]
          exact List.mem_map_of_mem (f := Prod.fst) hq
        | succ j =>
          simp only [List.getElem_cons_succ] at hk
          have hp : p.1 ≠ k := by
            intro hpk
            exact hnd.1 (by rw [hpk, ← hk]; exact List.mem_map_of_mem (f := Prod.fst) (List.getElem_mem _))
          have := ih j (by simpa using h) hnd.2 hk
          unfold delG at this ⊢
          rw [List.filter_cons, if_pos (by simpa using hp), List.eraseIdx_cons_succ, this]
    exact key ms j hjl ho.nd (by rw [hje]; exact h0)
  refine ⟨delG_nd ho.nd, ?_, ?_, ?_⟩
  · rw [hl, hml, map_erase, ho.eq, map_erase]
  · intro e he
    rw [hl] at he
    exact ho.young e (List.mem_of_mem_eraseIdx he)
  · rw [hl]
    exact List.Nodup.sublist (List.Sublist.map _ (List.eraseIdx_sublist _ _)) ho.apart
theorem ev_deleteS {b : Nat} {kt et t1 t2 : TypeId} {k : Bytes} {ar : List Operand} {L' : Array MapEntry → Nat → List Blk} [ht : TUn P t1 (.map kt et)] [hkt : TUn P kt .string]
    (ha : EvAll E ar [.map (some b), encStr k]) (ho : MapS es c val ms) (hu : ∀ es' c', Upd b (.map es c) (.map es' c') L (L' es' c')) :
    EV P ⟨dst, .call { callee := .builtin .delete, args := ar.toArray, argTypes := #[t1, t2] }, ty, pos, after, g⟩ n E O L fun u L1 => u = .tuple #[] ∧ ∃ es' c', L1 = L' es' c' ∧ MapS es' c' val (delG ms k) := fun a w hf hh K Q hK => by
  have hb := hh.all _ _ (hu es c).mem
  have hk : IsKey .string (encStr k) := trivial
  have hargs := ha.map hf
  have key1 : ∃ es' c', (Builtin.delete_ #[t1, t2] ty #[.map (some b), encStr k]).run P w = .ok (.tuple #[]) (setBlk w b (.map es' c')) ∧ MapS es' c' val (delG ms k) := by
    rcases ho.find k with ⟨h1, h2⟩ | ⟨j, e, t0, h1, h4, h5, h6, h7, h3, h2⟩
    · refine ⟨es, c, ?_, ?_⟩
      · simp [Builtin.delete_, run_underlying ht.ok, MapKept.run_getObj_map hb, run_checkKey hkt.ok hk, run_findKey hkt.ok h1, MapKept.run_setObj_map _ hb, Result.andThen, setBlk]
      · have : delG ms k = ms := by
          unfold delG
          rw [List.filter_eq_self]
          intro p hp
          exact decide_eq_true fun hpk => (getG_none.1 h2) (hpk ▸ List.mem_map_of_mem (f := Prod.fst) hp)
        rw [this]; exact ho
    · refine ⟨es.eraseIdxIfInBounds j, c, ?_, ho.erase h5 h6⟩
      simp [Builtin.delete_, run_underlying ht.ok, MapKept.run_getObj_map hb, run_checkKey hkt.ok hk, run_findKey hkt.ok h1, MapKept.run_setObj_map _ hb, Result.andThen, setBlk]
  obtain ⟨es', c', hrun, hok⟩ := key1
  have : (execOp a.eval ⟨dst, .call { callee := .builtin .delete, args := ar.toArray, argTypes := #[t1, t2] }, ty, pos, after, g⟩).run P w = .ok (.value (.tuple #[])) (setBlk w b (.map es' c')) := by
    have h2 : (ar.toArray.map a.eval) = #[.map (some b), encStr k] := by simp [hargs]
    simp [execOp, resolve, h2, invoke, builtin, hrun]
  unfold Oper.wp
  rw [this]
  exact hK _ _ _ ((hu es' c').has hh) ⟨rfl, es', c', rfl, hok⟩
end Fw
end Go.Proofs.YthmicniimofagaaGreat
