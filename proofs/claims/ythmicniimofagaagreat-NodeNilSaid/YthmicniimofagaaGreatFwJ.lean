/-
  THE BASE OF THE WALKS (J): maps with plain keys: make, look up, set. Condition: keys are of the map's kind.
-/
import Derived.Test.YthmicniimofagaaGreatFwI
import Derived.MapKept
import Derived.MapFrom
namespace Go.Proofs.YthmicniimofagaaGreat
namespace Fw
open MapKept
variable {P : Program} {n : Nat} {E : Env} {O : Out} {L : List Blk} {dst : Option Tmp} {T ty : TypeId} {pos : String} {after : Array Edge} {g : Option (Nat × Bool)} {x y z : Operand} {v : Value}

/-- The map's entries answer as f does. -/
structure MapOk (d : TypeDesc) (es : Array MapEntry) (f : Value → Option Value) : Prop where
  keys : ∀ e ∈ es.toList, IsKey d e.key
  apart : es.toList.Pairwise fun a b => a.key ≠ b.key
  says : ∀ k v, f k = some v ↔ ∃ e ∈ es.toList, e.key = k ∧ e.val = v
open Classical in
noncomputable def putF (f : Value → Option Value) (k v : Value) : Value → Option Value := fun k' => if k' = k then some v else f k'
theorem putF_same (f : Value → Option Value) (k v : Value) : putF f k v k = some v := by simp [putF]
theorem putF_ne (f : Value → Option Value) {k k' : Value} (v : Value) (h : k' ≠ k) : putF f k v k' = f k' := by simp [putF, h]
theorem MapOk.nil {d : TypeDesc} : MapOk d #[] (fun _ => none) := ⟨fun e h => by simp at h, by simp, fun k v => by simp⟩

theorem qr_lookup {b c : Nat} {es : Array MapEntry} {f : Value → Option Value} {kt et : TypeId} {d : TypeDesc} {zv key : Value} [ht : TUn P T (.map kt et)] [hkt : TUn P kt d] [hz : TZero P et zv]
    (h : ev E x = some (.map (some b))) (hy : ev E y = some key) (hm : (b, Obj.map es c) ∈ L) (hk : IsKey d key) (ho : MapOk d es f) :
    QR P ⟨dst, .lookup T x y false, ty, pos, after, g⟩ E O L ((f key).getD zv) := fun a n hf w hh => by
  have hb := hh.all _ _ hm
  rcases findNow_spec hk es.toList 0 ho.keys with ⟨h1, h2⟩ | ⟨j, e, h1, h2, h3⟩
  · have hn : f key = none := by
      cases hq : f key with
      | none => rfl
      | some v =>
        obtain ⟨e, he, hek, _⟩ := (ho.says key v).1 hq
        exact absurd hek (h2 e he)
    simp [execOp, hf.ev h, hf.ev hy, Instr.lookup, run_underlying ht.ok, run_getObj_map hb, run_checkKey hkt.ok hk, run_findKey hkt.ok h1, run_zero, Result.andThen, hn]
  · have hs : f key = some e.val := (ho.says key e.val).2 ⟨e, List.mem_of_getElem? h2, h3, rfl⟩
    simp [execOp, hf.ev h, hf.ev hy, Instr.lookup, run_underlying ht.ok, run_getObj_map hb, run_checkKey hkt.ok hk, run_findKey hkt.ok h1, Result.andThen, hs]

theorem qr_lookup_no {b c : Nat} {es : Array MapEntry} {f : Value → Option Value} {kt et : TypeId} {d : TypeDesc} {zv key : Value} [ht : TUn P T (.map kt et)] [hkt : TUn P kt d] [hz : TZero P et zv]
    (h : ev E x = some (.map (some b))) (hy : ev E y = some key) (hm : (b, Obj.map es c) ∈ L) (hk : IsKey d key) (ho : MapOk d es f) (hno : f key = none) :
    QR P ⟨dst, .lookup T x y false, ty, pos, after, g⟩ E O L zv := by
  have := qr_lookup (P := P) (T := T) (dst := dst) (ty := ty) (pos := pos) (after := after) (g := g) (O := O) h hy hm hk ho
  rwa [hno] at this

theorem MapOk.push {d : TypeDesc} {es : Array MapEntry} {f : Value → Option Value} {key v : Value} {c : Nat} (ho : MapOk d es f) (hk : IsKey d key) (hne : ∀ e ∈ es.toList, e.key ≠ key) :
    MapOk d (es.push ⟨key, v, c⟩) (putF f key v) where
  keys := by
    intro e he
    simp only [Array.toList_push, List.mem_append, List.mem_singleton] at he
    rcases he with he | rfl
    · exact ho.keys e he
    · exact hk
  apart := by
    rw [Array.toList_push, List.pairwise_append]
    refine ⟨ho.apart, by simp, fun a ha b hb => ?_⟩
    have : b = ⟨key, v, c⟩ := by simpa using hb
    subst this
    exact hne a ha
  says := by
    intro k u
    simp only [Array.toList_push, List.mem_append, List.mem_singleton]
    by_cases hkk : k = key
    · subst hkk
      rw [putF_same]
      constructor
      · intro h
        cases h
        exact ⟨_, .inr rfl, rfl, rfl⟩
      · rintro ⟨e, he | rfl, h1, h2⟩
        · exact absurd h1 (hne e he)
        · rw [← h2]
    · rw [putF_ne _ _ hkk, ho.says]
      constructor
      · rintro ⟨e, he, h⟩; exact ⟨e, .inl he, h⟩
      · rintro ⟨e, he | rfl, h1, h2⟩
        · exact ⟨e, he, h1, h2⟩
        · exact absurd h1.symm hkk

theorem MapOk.modify {d : TypeDesc} {es : Array MapEntry} {f : Value → Option Value} {key v : Value} {j : Nat} {e0 : MapEntry} (ho : MapOk d es f) (hk : IsKey d key) (hj : es.toList[j]? = some e0) (h0 : e0.key = key) :
    MapOk d (es.modify j fun e => { e with key := key, val := v }) (putF f key v) := by
  have hj' : es[j]? = some e0 := by simpa using hj
  have hlt : j < es.size := (Array.getElem?_eq_some_iff.1 hj').1
  have hej : es[j] = e0 := by
    rw [Array.getElem?_eq_getElem hlt] at hj'
    exact Option.some.inj hj'
  have hl : (es.modify j fun e => { e with key := key, val := v }).toList = es.toList.set j { e0 with key := key, val := v } := by
    apply List.ext_getElem?
    intro i
    simp only [Array.getElem?_toList, Array.getElem?_modify, List.getElem?_set, Array.length_toList, hlt, if_true]
    by_cases hij : j = i
    · subst hij; simp [hlt, hej]
    · simp [hij]
  have hkeys : (es.modify j fun e => { e with key := key, val := v }).toList.map (·.key) = es.toList.map (·.key) := by
    rw [hl, List.map_set]
    apply List.ext_getElem?
    intro i
    rw [List.getElem?_set]
    by_cases hij : j = i
    · subst hij; simp [hlt, hej, h0]
    · simp [hij]
  have hap : ∀ l : List MapEntry, l.Pairwise (fun a b => a.key ≠ b.key) ↔ (l.map (·.key)).Pairwise (· ≠ ·) := fun l => by rw [List.pairwise_map]
  have hinj : ∀ (i : Nat) (e : MapEntry), es.toList[i]? = some e → e.key = key → i = j := by
    intro i e hi hek
    obtain ⟨hil, hie⟩ := List.getElem?_eq_some_iff.1 hi
    obtain ⟨hjl, hje⟩ := List.getElem?_eq_some_iff.1 hj
    rcases Nat.lt_trichotomy i j with h | h | h
    · exact absurd (by rw [hie, hje, hek, h0]) ((List.pairwise_iff_getElem.1 ho.apart) i j hil hjl h)
    · exact h
    · exact absurd (by rw [hie, hje, hek, h0]) ((List.pairwise_iff_getElem.1 ho.apart) j i hjl hil h)
  refine ⟨?_, ?_, ?_⟩
  · intro e he
    have : e.key ∈ (es.modify j fun e => { e with key := key, val := v }).toList.map (·.key) := List.mem_map.2 ⟨e, he, rfl⟩
    rw [hkeys] at this
    obtain ⟨e', he', hq⟩ := List.mem_map.1 this
    rw [← hq]
    exact ho.keys e' he'
  · rw [hap, hkeys, ← hap]; exact ho.apart
  · intro k u
    rw [hl]
    by_cases hkk : k = key
    · subst hkk
      rw [putF_same]
      constructor
      · intro h
        cases h
        exact ⟨{ e0 with key := k, val := v }, List.mem_iff_getElem?.2 ⟨j, by simp [hlt]⟩, rfl, rfl⟩
      · rintro ⟨e, he, h1, h2⟩
        obtain ⟨i, hi⟩ := List.mem_iff_getElem?.1 he
        by_cases hij : j = i
        · subst hij
          rw [List.getElem?_set_self (by simpa using hlt)] at hi
          cases hi
          rw [← h2]
        · rw [List.getElem?_set_ne hij] at hi
          exact absurd (hinj i e hi h1).symm hij
    · rw [putF_ne _ _ hkk, ho.says]
      constructor
      · rintro ⟨e, he, h1, h2⟩
        obtain ⟨i, hi⟩ := List.mem_iff_getElem?.1 he
        refine ⟨e, List.mem_iff_getElem?.2 ⟨i, ?_⟩, h1, h2⟩
        have hne : j ≠ i := by
          rintro rfl
          rw [hj] at hi
          cases hi
          exact hkk (h1.symm.trans h0)
        rw [List.getElem?_set_ne hne]
        exact hi
      · rintro ⟨e, he, h1, h2⟩
        rcases List.mem_or_eq_of_mem_set he with he | rfl
        · exact ⟨e, he, h1, h2⟩
        · exact absurd h1.symm hkk

theorem ev_mapUpdate {b c : Nat} {es : Array MapEntry} {f : Value → Option Value} {kt et : TypeId} {d : TypeDesc} {key : Value} {L' : Array MapEntry → Nat → List Blk} [ht : TUn P T (.map kt et)] [hkt : TUn P kt d]
    (h : ev E x = some (.map (some b))) (hy : ev E y = some key) (hz : ev E z = some v) (hk : IsKey d key) (ho : MapOk d es f) (hu : ∀ es' c', Upd b (.map es c) (.map es' c') L (L' es' c')) :
    EV P ⟨dst, .mapUpdate T x y z, ty, pos, after, g⟩ n E O L fun u L1 => u = undef ∧ ∃ es' c', L1 = L' es' c' ∧ MapOk d es' (putF f key v) := fun a w hf hh K Q hK => by
  have hb := hh.all _ _ (hu es c).mem
  have key1 : ∃ es' c', (Instr.mapUpdate T (.map (some b)) key v).run P w = .ok () (setBlk w b (.map es' c')) ∧ MapOk d es' (putF f key v) := by
    rcases findNow_spec hk es.toList 0 ho.keys with ⟨h1, h2⟩ | ⟨j, e, h1, h2, h3⟩
    · refine ⟨es.push ⟨key, v, c⟩, c + 1, ?_, ho.push hk h2⟩
      simp [Instr.mapUpdate, run_underlying ht.ok, run_getObj_map hb, run_checkKey hkt.ok hk, run_findKey hkt.ok h1, run_setObj_map _ hb, Result.andThen, setBlk]
    · have hj : es[j]? = some e := by simpa using h2
      refine ⟨es.modify j (fun e => { e with key := key, val := v }), c, ?_, ho.modify hk h2 h3⟩
      simp [Instr.mapUpdate, run_underlying ht.ok, run_getObj_map hb, run_checkKey hkt.ok hk, run_findKey hkt.ok h1, hj, h3, run_keyThatStays hk, run_setObj_map _ hb, Result.andThen, setBlk]
  obtain ⟨es', c', hrun, hok⟩ := key1
  have : (execOp a.eval ⟨dst, .mapUpdate T x y z, ty, pos, after, g⟩).run P w = .ok .skip (setBlk w b (.map es' c')) := by
    simp [execOp, hf.ev h, hf.ev hy, hf.ev hz, hrun]
  unfold Oper.wp
  rw [this]
  exact hK undef _ _ ((hu es' c').has hh) ⟨rfl, es', c', rfl, hok⟩
end Fw
end Go.Proofs.YthmicniimofagaaGreat
