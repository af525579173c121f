/-
  THE BASE OF THE WALKS (1): a region that draws its order, walked in one order. Conditions: the quiet operations' values hold in every world of a class that the other operations keep.
-/
import Derived.OrdersHeld
namespace Go.Proofs.YthmicniimofagaaGreat
namespace Fw

section
variable {P : Program} {ops : Array Oper} {Q : Exit → Act → World → Prop} {md : Region.Mode}

/-- An operation that looks into memory, and leaves it as it is. -/
def isR (o : Oper) : Bool := match o.op with
  | .load .. | .lookup .. | .convert .. => true
  | _ => false

/-- An operation that may be taken first, if it yields. -/
def quietB (o : Oper) : Bool := match o.op with
  | .load .. | .lookup .. | .move _ | .assign _ | .pick .. | .nilCheck _ | .binOp .. | .unOp .. | .convert .. | .fieldAddr .. | .field .. | .indexAddr .. | .index .. | .extract .. | .slice .. | .build .. => true
  | .call { callee := .builtin b, .. } => match b with
    | .len | .cap | .min | .max => true
    | _ => false
  | _ => false

def waitsOn (md : Region.Mode) (ops : Array Oper) (j l : Nat) : Bool :=
  match ops[j]? with
  | some oj => oj.after.any (fun e => Region.binds md e && e.on == l)
  | none => false

/-- The same, by a chain of at most n more. -/
def waitsN (md : Region.Mode) (ops : Array Oper) : Nat → Nat → Nat → Bool
  | 0, j, l => waitsOn md ops j l
  | n + 1, j, l => waitsOn md ops j l || match ops[j]? with
    | some oj => oj.after.any (fun e => Region.binds md e && waitsN md ops n e.on l)
    | none => false

def Closed (md : Region.Mode) (ops : Array Oper) (listed : Array Bool) : Prop :=
  ∀ (j : Nat) (oj : Oper), ops[j]? = some oj → listed.getD j false = true → ∀ e ∈ oj.after, Region.binds md e = true → listed.getD e.on false = true

theorem Closed.none : Closed md ops (Array.replicate ops.size false) := by
  intro j oj hj h
  simp [Array.getD_eq_getD_getElem?, Array.getElem?_replicate] at h
  split at h <;> simp at h

theorem getD_ff {listed : Array Bool} {i j : Nat} (h : listed.getD j false = true) : (listed.setIfInBounds i true).getD j false = true := by
  simp only [Array.getD_eq_getD_getElem?, Array.getElem?_setIfInBounds] at *
  by_cases hij : i = j
  · subst hij
    by_cases hl : i < listed.size
    · simp [hl]
    · simp [hl] at h
  · simpa [hij] using h

theorem Closed.set {listed : Array Bool} {i : Nat} (h : Closed md ops listed) (hr : i ∈ Region.ready md ops listed) : Closed md ops (listed.setIfInBounds i true) := by
  intro j oj hj hl e he hb
  refine getD_ff ?_
  by_cases hij : i = j
  · subst hij
    obtain ⟨_, o, ho, hall⟩ := mem_ready.1 hr
    rw [hj] at ho
    cases ho
    exact hall e he hb
  · refine h j oj hj ?_ e he hb
    simpa [Array.getD_eq_getD_getElem?, Array.getElem?_setIfInBounds, hij] using hl

theorem waitsN_listed {listed : Array Bool} (h : Closed md ops listed) : ∀ (n : Nat) (j l : Nat), (∀ oj, ops[j]? = some oj → ∀ e ∈ oj.after, Region.binds md e = true → listed.getD e.on false = true) → waitsN md ops n j l = true → listed.getD l false = true := by
  have key : ∀ (j l : Nat), (∀ oj, ops[j]? = some oj → ∀ e ∈ oj.after, Region.binds md e = true → listed.getD e.on false = true) → waitsOn md ops j l = true → listed.getD l false = true := by
    intro j l hj hw
    unfold waitsOn at hw
    cases ho : ops[j]? with
    | none => simp [ho] at hw
    | some oj =>
      simp only [ho, Array.any_eq_true'] at hw
      obtain ⟨e, he, hh⟩ := hw
      simp only [Bool.and_eq_true, beq_iff_eq] at hh
      rw [← hh.2]
      exact hj oj ho e he hh.1
  intro n
  induction n with
  | zero => exact key
  | succ n ih =>
    intro j l hj hw
    simp only [waitsN, Bool.or_eq_true] at hw
    rcases hw with hw | hw
    · exact key j l hj hw
    · cases ho : ops[j]? with
      | none => simp [ho] at hw
      | some oj =>
        simp only [ho, Array.any_eq_true'] at hw
        obtain ⟨e, he, hh⟩ := hw
        simp only [Bool.and_eq_true] at hh
        refine ih e.on l (fun o2 h2 => h e.on o2 h2 (hj oj ho e he hh.1)) hh.2

def readsAt (ops : Array Oper) (l : Nat) : Bool :=
  match ops[l]? with
  | some o => isR o
  | none => false

/-- Must what was known of memory be kept by operation j: does one that reads, and that has been taken, not stand surely ahead of it? -/
def keepsB (md : Region.Mode) (ops : Array Oper) (listed : Array Bool) (j : Nat) : Bool :=
  (List.range ops.size).any fun l => listed.getD l false && readsAt ops l && !waitsN md ops 3 j l

def wpAnyG (P : Program) (md : Region.Mode) (ops : Array Oper) (Q : Exit → Act → World → Prop) : Nat → (World → Prop) → Array Bool → Act → World → Prop
  | 0, _, listed, a, w => Region.ready md ops listed = [] ∧ Q .normal a w
  | fuel + 1, S, listed, a, w =>
    (Region.ready md ops listed = [] → Q .normal a w) ∧
    ∀ i ∈ Region.ready md ops listed, wpOp P ops Q i (fun a' w' => ∃ S' : World → Prop, S' w' ∧ (keepsB md ops listed i = true → ∀ w, S' w → S w) ∧
      wpAnyG P md ops Q fuel S' (listed.setIfInBounds i true) a' w') a w

theorem wpAny_of_G : ∀ (fuel : Nat) (S : World → Prop) (listed : Array Bool) (a : Act) (w : World), wpAnyG P md ops Q fuel S listed a w → wpAny P md ops Q fuel listed a w
  | 0, _, _, _, _, h => h
  | fuel + 1, _, _, _, _, h => ⟨h.1, fun i hi => wpOp_mono (fun a' w' ⟨S', _, _, h'⟩ => wpAny_of_G fuel S' _ a' w' h') (h.2 i hi)⟩

def YQ (P : Program) (ops : Array Oper) (S : World → Prop) (o : Oper) (v : Value) (a : Act) : Prop :=
  (isR o = true ∧ YieldsIf P ops S o v a) ∨ Yields P ops o v a

theorem YQ.yieldsIf {S : World → Prop} {o : Oper} {v : Value} {a : Act} (h : YQ P ops S o v a) : YieldsIf P ops S o v a :=
  h.elim (·.2) (·.yieldsIf)

theorem YieldsIf.anti {S S' : World → Prop} {o : Oper} {v : Value} {a : Act} (h : YieldsIf P ops S o v a) (hs : ∀ w, S' w → S w) : YieldsIf P ops S' o v a :=
  h.imp (fun ⟨hw, hv⟩ => ⟨hw, fun w hS => hv w (hs w hS)⟩) id

theorem keepsB_mono {listed : Array Bool} {i j : Nat} (h : keepsB md ops listed j = true) : keepsB md ops (listed.setIfInBounds i true) j = true := by
  unfold keepsB at *
  rw [List.any_eq_true] at *
  obtain ⟨l, hl, hh⟩ := h
  refine ⟨l, hl, ?_⟩
  simp only [Bool.and_eq_true] at *
  exact ⟨⟨getD_set_true hh.1.1, hh.1.2⟩, hh.2⟩

theorem wpAnyG_first {i : Nat} {oi : Oper} {v : Value} (hi : ops[i]? = some oi) (hsel : ∀ (j : Nat) (o : Oper) cs b, ops[j]? = some o → o.op ≠ .select cs b)
    (hQ : ∀ c a w, Q (.panic c) (a.put oi.dst v) w → Q (.panic c) a w) :
    ∀ (fuel : Nat) (S : World → Prop) (listed : Array Bool) (a : Act) (w : World),
      i < listed.size →
      (∀ j oj, ops[j]? = some oj → j ≠ i → listed.getD j true = false → (∀ e ∈ oj.after, Region.binds md e = true → e.on ≠ i) → oi.apart ops oj = true) →
      Closed md ops listed → i ∈ Region.ready md ops listed → YQ P ops S oi v a → S w →
      wpAnyG P md ops Q fuel S (listed.setIfInBounds i true) (a.put oi.dst v) w → wpAnyG P md ops Q (fuel + 1) S listed a w := by
  intro fuel
  induction fuel with
  | zero =>
    intro S listed a w _ _ hcl hr hy hS H
    refine ⟨fun h => (by rw [h] at hr; cases hr), fun j hj => ?_⟩
    by_cases hji : j = i
    · subst hji; exact hy.yieldsIf.wpOp hi hS ⟨S, hS, fun _ _ h => h, H⟩
    · have := ready_mono hj hji
      rw [H.1] at this
      cases this
  | succ fuel ih =>
    intro S listed a w hlt hfree hcl hr hy hS H
    refine ⟨fun h => (by rw [h] at hr; cases hr), fun j hj => ?_⟩
    by_cases hji : j = i
    · subst hji; exact hy.yieldsIf.wpOp hi hS ⟨S, hS, fun _ _ h => h, H⟩
    · have h1 := H.2 j (ready_mono hj hji)
      obtain ⟨hjun, oj, hoj, hall⟩ := mem_ready.1 hj
      have hiun := (mem_ready.1 hr).1
      have hnot : ∀ e ∈ oj.after, Region.binds md e = true → e.on ≠ i := fun e he hb heq => by
        have h1 := hall e he hb
        rw [heq] at h1
        simp [hlt] at hiun h1; rw [hiun] at h1; cases h1
      have hkeep : isR oi = true → keepsB md ops (listed.setIfInBounds i true) j = true := fun hR => by
        unfold keepsB
        rw [List.any_eq_true]
        refine ⟨i, List.mem_range.2 (Array.getElem?_eq_some_iff.1 hi).1, ?_⟩
        simp only [Bool.and_eq_true]
        refine ⟨⟨by simp [hlt], by simp [readsAt, hi, hR]⟩, ?_⟩
        rw [Bool.not_eq_true']
        cases hwn : waitsN md ops 3 j i with
        | false => rfl
        | true =>
          have h1 := waitsN_listed hcl 3 j i (fun o2 h2 e he hb => by rw [hoj] at h2; cases h2; exact hall e he hb) hwn
          simp [hlt] at hiun h1
          rw [hiun] at h1
          cases h1
      have h2 : wpOp P ops Q j (fun a' w' => YieldsIf P ops S oi v a' ∧ (YQ P ops S oi v a' ∧ ∃ S' : World → Prop, S' w' ∧ (keepsB md ops (listed.setIfInBounds i true) j = true → ∀ w, S' w → S w) ∧
          wpAnyG P md ops Q fuel S' ((listed.setIfInBounds i true).setIfInBounds j true) (a'.put oi.dst v) w')) a w := by
        obtain ⟨p1, p2, p3⟩ := Oper.apart_spec (hfree j oj hoj hji hjun hnot)
        rcases hy with ⟨hR, hyI⟩ | hyY
        · have := wpOp_putIf hoj (hfree j oj hoj hji hjun hnot) (fun cs b => hsel i oi cs b hi) (fun cs b => hsel j oj cs b hoj) hQ hyI h1
          exact wpOp_mono (fun a' w' h => ⟨h.1, .inl ⟨hR, h.1⟩, h.2⟩) this
        · have := wpOp_put hoj (hfree j oj hoj hji hjun hnot) (fun cs b => hsel i oi cs b hi) (fun cs b => hsel j oj cs b hoj) hQ hyY h1
          exact wpOp_mono (fun a' w' h => ⟨h.1.yieldsIf, .inr h.1, h.2⟩) this
      have hfree' : ∀ k ok, ops[k]? = some ok → k ≠ i → (listed.setIfInBounds j true).getD k true = false →
          (∀ e ∈ ok.after, Region.binds md e = true → e.on ≠ i) → oi.apart ops ok = true := fun k ok hk hki hun hno => by
        refine hfree k ok hk hki ?_ hno
        by_cases hjk : j = k
        · subst hjk; exact hjun
        · rw [getD_set_ne true hjk] at hun; exact hun
      refine wpOp_mono (fun a' w' ⟨_, hyq, S', hS', hk', h3⟩ => ?_) h2
      refine ⟨S', hS', fun hk => hk' (keepsB_mono hk), ?_⟩
      refine ih S' (listed.setIfInBounds j true) a' w' (by simpa using hlt) hfree' (hcl.set hj) (ready_mono hr (Ne.symm hji)) ?_ hS' ?_
      · rcases hyq with ⟨hR, hyI⟩ | hyY
        · exact .inl ⟨hR, YieldsIf.anti hyI (hk' (hkeep hR))⟩
        · exact .inr hyY
      · rw [Array.setIfInBounds_comm _ _ hji]
        exact h3

theorem wpAnyG_done {S : World → Prop} {listed : Array Bool} {a : Act} {w : World} (hr : Region.ready md ops listed = []) (h : Q .normal a w) :
    ∀ fuel, wpAnyG P md ops Q fuel S listed a w
  | 0 => ⟨hr, h⟩
  | _ + 1 => ⟨fun _ => h, by rw [hr]; simp⟩

/-- In which order it is walked; where two may come up, both ways. -/
inductive Scr where
  | done
  | op (i : Nat) (k : Bool) (rest : Scr)
  | two (i : Nat) (ki : Bool) (ri : Scr) (j : Nat) (kj : Bool) (rj : Scr)
  | eff (i : Nat) (k : Bool) (rest : Scr)

def Scr.size : Scr → Nat
  | .done => 0
  | .eff _ _ r => r.size + 1
  | .op _ _ r => r.size + 1
  | .two _ _ r _ _ r' => max r.size r'.size + 1

/-- The walk: a quiet operation yields; another one goes on with a class that it keeps, where it must. -/
def wpScr (P : Program) (ops : Array Oper) (Q : Exit → Act → World → Prop) : Scr → (World → Prop) → Act → World → Prop
  | .done, _, a, w => Q .normal a w
  | .op i k rest, S, a, w => match ops[i]? with
    | none => False
    | some o =>
      if quietB o = true then ∃ v, YQ P ops S o v a ∧ wpScr P ops Q rest S (a.put o.dst v) w
      else if Region.wanted o (yielded ops a.tmps) = true then
        o.wp P a w (fun a' w' => ∃ S' : World → Prop, S' w' ∧ (k = true → ∀ w, S' w → S w) ∧ wpScr P ops Q rest S' a' w') Q
      else wpScr P ops Q rest S (a.put o.dst undef) w
  | .eff i k rest, S, a, w => match ops[i]? with
    | none => False
    | some o =>
      if Region.wanted o (yielded ops a.tmps) = true then
        o.wp P a w (fun a' w' => ∃ S' : World → Prop, S' w' ∧ (k = true → ∀ w, S' w → S w) ∧ wpScr P ops Q rest S' a' w') Q
      else wpScr P ops Q rest S (a.put o.dst undef) w
  | .two i ki ri j kj rj, S, a, w =>
    (match ops[i]? with
    | none => False
    | some o => quietB o = false ∧ if Region.wanted o (yielded ops a.tmps) = true then
        o.wp P a w (fun a' w' => ∃ S' : World → Prop, S' w' ∧ (ki = true → ∀ w, S' w → S w) ∧ wpScr P ops Q ri S' a' w') Q
      else wpScr P ops Q ri S (a.put o.dst undef) w) ∧
    (match ops[j]? with
    | none => False
    | some o => quietB o = false ∧ if Region.wanted o (yielded ops a.tmps) = true then
        o.wp P a w (fun a' w' => ∃ S' : World → Prop, S' w' ∧ (kj = true → ∀ w, S' w → S w) ∧ wpScr P ops Q rj S' a' w') Q
      else wpScr P ops Q rj S (a.put o.dst undef) w)

def scrOK (md : Region.Mode) (ops : Array Oper) : Scr → Array Bool → Bool
  | .done, listed => Region.ready md ops listed == []
  | .op i k rest, listed => (match ops[i]? with
    | none => false
    | some o => if quietB o then (Region.ready md ops listed).contains i && Region.free md ops listed i else (Region.ready md ops listed == [i]) && (k || !keepsB md ops listed i))
    && scrOK md ops rest (listed.setIfInBounds i true)
  | .eff i k rest, listed => (Region.ready md ops listed == [i]) && (k || !keepsB md ops listed i) && scrOK md ops rest (listed.setIfInBounds i true)
  | .two i ki ri j kj rj, listed => (Region.ready md ops listed == [i, j]) && (ki || !keepsB md ops listed i) && (kj || !keepsB md ops listed j) &&
    scrOK md ops ri (listed.setIfInBounds i true) && scrOK md ops rj (listed.setIfInBounds j true)

theorem wpOp_scr {i : Nat} {k : Bool} {S : World → Prop} {listed : Array Bool} {fuel : Nat} {a : Act} {w : World} {o : Oper} {T : (World → Prop) → Act → World → Prop} (hi : ops[i]? = some o) (hk : k = true ∨ keepsB md ops listed i = false) (hS : S w)
    (hT : ∀ S' a' w', S' w' → T S' a' w' → wpAnyG P md ops Q fuel S' (listed.setIfInBounds i true) a' w')
    (h : if Region.wanted o (yielded ops a.tmps) = true then
        o.wp P a w (fun a' w' => ∃ S' : World → Prop, S' w' ∧ (k = true → ∀ w, S' w → S w) ∧ T S' a' w') Q
      else T S (a.put o.dst undef) w) :
    wpOp P ops Q i (fun a' w' => ∃ S' : World → Prop, S' w' ∧ (keepsB md ops listed i = true → ∀ w, S' w → S w) ∧ wpAnyG P md ops Q fuel S' (listed.setIfInBounds i true) a' w') a w := by
  unfold wpOp
  simp only [hi]
  by_cases hw : Region.wanted o (yielded ops a.tmps) = true
  · simp only [hw, if_true] at h ⊢
    refine .inl (Oper.wp_mono (fun a' w' ⟨S', hS', hk', h'⟩ => ?_) h)
    exact ⟨S', hS', fun hkk => hk' (hk.resolve_right (by simp [hkk])), hT S' a' w' hS' h'⟩
  · simp only [hw] at h ⊢
    exact ⟨S, hS, fun _ _ h => h, hT S _ w hS (by simpa using h)⟩

theorem wpScr_sound (hs : Region.noSelect ops = true) (hQ : ∀ (c : List PanicEntry) (a : Act) (d : Option Tmp) (v : Value) (w : World), Q (.panic c) (a.put d v) w → Q (.panic c) a w) :
    ∀ (scr : Scr) (S : World → Prop) (listed : Array Bool) (fuel : Nat) (a : Act) (w : World), listed.size = ops.size → scr.size ≤ fuel → scrOK md ops scr listed = true → Closed md ops listed → S w →
      wpScr P ops Q scr S a w → wpAnyG P md ops Q fuel S listed a w := by
  intro scr
  induction scr with
  | done =>
    intro S listed fuel a w _ _ ho _ _ h
    exact wpAnyG_done (by simpa [scrOK] using ho) h fuel
  | op i k rest ih =>
    intro S listed fuel a w hsz hf ho hcl hS h
    obtain ⟨fuel, rfl⟩ : ∃ m, fuel = m + 1 := ⟨fuel - 1, by simp [Scr.size] at hf; omega⟩
    have hf' : rest.size ≤ fuel := by simp [Scr.size] at hf; omega
    cases hi : ops[i]? with
    | none => simp [wpScr, hi] at h
    | some o =>
      have hlt : i < ops.size := (Array.getElem?_eq_some_iff.1 hi).1
      simp only [scrOK, hi, Bool.and_eq_true] at ho
      obtain ⟨ho1, ho2⟩ := ho
      simp only [wpScr, hi] at h
      by_cases hq : quietB o = true
      · simp only [hq, if_true] at h ho1
        obtain ⟨v, hy, h⟩ := h
        simp only [Bool.and_eq_true] at ho1
        have hrest := ih S (listed.setIfInBounds i true) fuel (a.put o.dst v) w (by simpa using hsz) hf' ho2 (hcl.set (by simpa using ho1.1)) hS h
        exact wpAnyG_first hi (Region.noSelect_spec hs) (fun c a w => hQ c a o.dst v w) fuel S listed a w (by omega) (Region.free_spec hi ho1.2) hcl (by simpa using ho1.1) hy hS hrest
      · simp only [hq] at h ho1
        simp only [Bool.false_eq_true, if_false, Bool.and_eq_true, beq_iff_eq, Bool.or_eq_true, Bool.not_eq_true'] at ho1
        obtain ⟨hr, hk⟩ := ho1
        refine ⟨fun h0 => (by rw [hr] at h0; cases h0), ?_⟩
        rw [hr]
        intro j hj
        obtain rfl : j = i := by simpa using hj
        exact wpOp_scr (T := fun S' a' w' => wpScr P ops Q rest S' a' w') hi hk hS (fun S' a' w' hS' h' => ih S' _ fuel a' w' (by simpa using hsz) hf' ho2 (hcl.set (by rw [hr]; simp)) hS' h') (by simpa using h)
  | eff i k rest ih =>
    intro S listed fuel a w hsz hf ho hcl hS h
    obtain ⟨fuel, rfl⟩ : ∃ m, fuel = m + 1 := ⟨fuel - 1, by simp [Scr.size] at hf; omega⟩
    have hf' : rest.size ≤ fuel := by simp [Scr.size] at hf; omega
    simp only [scrOK, Bool.and_eq_true, beq_iff_eq, Bool.or_eq_true, Bool.not_eq_true'] at ho
    obtain ⟨⟨hr, hk⟩, ho2⟩ := ho
    refine ⟨fun h0 => (by rw [hr] at h0; cases h0), ?_⟩
    rw [hr]
    intro j hj
    obtain rfl : j = i := by simpa using hj
    cases hi : ops[j]? with
    | none => simp [wpScr, hi] at h
    | some o =>
      simp only [wpScr, hi] at h
      exact wpOp_scr (T := fun S' a' w' => wpScr P ops Q rest S' a' w') hi hk hS (fun S' a' w' hS' h' => ih S' _ fuel a' w' (by simpa using hsz) hf' ho2 (hcl.set (by rw [hr]; simp)) hS' h') h
  | two i ki ri j kj rj ihi ihj =>
    intro S listed fuel a w hsz hf ho hcl hS h
    obtain ⟨fuel, rfl⟩ : ∃ m, fuel = m + 1 := ⟨fuel - 1, by simp [Scr.size] at hf; omega⟩
    have hfi : ri.size ≤ fuel := by simp [Scr.size] at hf; omega
    have hfj : rj.size ≤ fuel := by simp [Scr.size] at hf; omega
    simp only [scrOK, Bool.and_eq_true, beq_iff_eq, Bool.or_eq_true, Bool.not_eq_true'] at ho
    obtain ⟨⟨⟨⟨hr, hki⟩, hkj⟩, hoi⟩, hoj⟩ := ho
    obtain ⟨h1, h2⟩ := h
    refine ⟨fun h0 => (by rw [hr] at h0; cases h0), ?_⟩
    rw [hr]
    intro m hm
    have hm' : m = i ∨ m = j := by simpa using hm
    rcases hm' with rfl | rfl
    · cases hi : ops[m]? with
      | none => simp [hi] at h1
      | some o =>
        simp only [hi] at h1
        exact wpOp_scr (T := fun S' a' w' => wpScr P ops Q ri S' a' w') hi hki hS (fun S' a' w' hS' h' => ihi S' _ fuel a' w' (by simpa using hsz) hfi hoi (hcl.set (by rw [hr]; simp)) hS' h') h1.2
    · cases hi : ops[m]? with
      | none => simp [hi] at h2
      | some o =>
        simp only [hi] at h2
        exact wpOp_scr (T := fun S' a' w' => wpScr P ops Q rj S' a' w') hi hkj hS (fun S' a' w' hS' h' => ihj S' _ fuel a' w' (by simpa using hsz) hfj hoj (hcl.set (by rw [hr]; simp)) hS' h') h2.2

/-- Q, but false at a panic. -/
def NoPan (Q : Exit → Act → World → Prop) : Exit → Act → World → Prop
  | .panic _, _, _ => False
  | e, a, w => Q e a w

theorem wp_draw {id : Nat} {a : Act} {w : World} (hm : P.follows .mixedOrders = true) (scr : Scr)
    (hchk : (Region.noSelect ops && decide (scr.size ≤ ops.size) && scrOK .any ops scr (Array.replicate ops.size false)) = true) (S : World → Prop) (hS : S { w with drawn := w.drawn + 1 })
    (h : wpScr P ops (NoPan Q) scr S a { w with drawn := w.drawn + 1 }) : (Code.region id ops true).wp P Q a w := by
  simp only [Bool.and_eq_true, decide_eq_true_eq] at hchk
  refine wp_mono (Q := NoPan Q) (wp_region_any hm (wpAny_of_G _ S _ _ _ (wpScr_sound hchk.1.1 (fun _ _ _ _ _ h => h) scr S _ ops.size a _ (by simp) hchk.1.2 hchk.2 Closed.none hS h))) ?_
  intro e a w h
  cases e <;> first | exact h | exact (h : False).elim
end
end Fw
end Go.Proofs.YthmicniimofagaaGreat
