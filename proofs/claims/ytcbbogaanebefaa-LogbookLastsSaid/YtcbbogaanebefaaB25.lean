/-
  THE PLAIN LAW of LogbookLasts: what holds behind n steps, wherever power goes. Conditions: at most 50 steps.
-/
import Derived.Test.YtcbbogaanebefaaB24
namespace Go.Proofs.Ytcbbogaanebefaa
open Fw
set_option linter.unusedVariables false
set_option linter.unusedSimpArgs false

structure GoodK (n : Nat) (h : Kept) : Prop where
  nd : (h.map Prod.fst).Nodup
  ok : KeptOk h
  weight : weigh h ≤ 4358 * n
structure Lst (n : Nat) (l : Lb) (s0 s1 : Slab) (hs : List Kept) : Prop where
  at_ : l.at_ = 0 ∨ l.at_ = 1
  life1 : 1 ≤ l.life
  life2 : l.life ≤ 2 * n + 1
  good : ∀ h ∈ hs, GoodK n h
  cur : l.has ∈ hs
  act : ActOk (actS l s0 s1) l.life (fun H => ∃ h ∈ hs, SameG H h) l.has
  oth : OthOk (othS l s0 s1) l.life (fun H => l.dead ≠ 0 ∧ SameG H l.has)
  z0 : sizeS s0 ≤ 18 + 4358 * n
  z1 : sizeS s1 ≤ 18 + 4358 * n
  len : hs.length ≤ n + 1
theorem GoodK.mono {n m : Nat} {h : Kept} (g : GoodK n h) (hm : n ≤ m) : GoodK m h := ⟨g.nd, g.ok, by have := g.weight; omega⟩
theorem Lst.cg {n : Nat} {l : Lb} {s0 s1 : Slab} {hs : List Kept} (h : Lst n l s0 s1 hs) : GoodK n l.has := h.good _ h.cur
theorem Lst.za {n : Nat} {l : Lb} {s0 s1 : Slab} {hs : List Kept} (h : Lst n l s0 s1 hs) : sizeS (actS l s0 s1) ≤ 18 + 4358 * n := by
  unfold actS; split
  · exact h.z0
  · exact h.z1
/-- One step on the slab on which it is. -/
theorem Lst.step {n : Nat} {l l' : Lb} {s0 s1 s' : Slab} {hs hs' : List Kept} (h : Lst n l s0 s1 hs) (ha : l'.at_ = l.at_) (hl : l'.life = l.life) (hg : ∀ x ∈ hs', GoodK (n + 1) x) (hc : l'.has ∈ hs') (hlen : hs'.length ≤ n + 2)
    (hact : ActOk s' l.life (fun H => ∃ x ∈ hs', SameG H x) l'.has) (hq : ∀ H, (l.dead ≠ 0 ∧ SameG H l.has) → (l'.dead ≠ 0 ∧ SameG H l'.has)) (hz : sizeS s' ≤ 18 + 4358 * (n + 1)) : Lst (n + 1) l' (setA l s0 s1 s').1 (setA l s0 s1 s').2 hs' := by
  obtain ⟨e1, e2⟩ := setA_act (l := l) (l' := l') s0 s1 s' ha
  have hcs : sizeS (setA l s0 s1 s').1 ≤ 18 + 4358 * (n + 1) ∧ sizeS (setA l s0 s1 s').2 ≤ 18 + 4358 * (n + 1) := by
    have := h.z0
    have := h.z1
    unfold setA
    split
    · exact ⟨hz, by show sizeS s1 ≤ _; omega⟩
    · exact ⟨by show sizeS s0 ≤ _; omega, hz⟩
  exact ⟨by rw [ha]; exact h.at_, by rw [hl]; exact h.life1, by rw [hl]; have := h.life2; omega, hg, hc, by rw [e1, hl]; exact hact, by rw [e2, hl]; exact h.oth.mono hq, hcs.1, hcs.2, hlen⟩
theorem same_ex {hs : List Kept} {x : Kept} {H : Kept} (h : ∃ h ∈ hs, SameG H h) : ∃ h ∈ hs ++ [x], SameG H h := by
  obtain ⟨a, h1, h2⟩ := h
  exact ⟨a, List.mem_append_left _ h1, h2⟩
theorem good_snoc {n : Nat} {hs : List Kept} {x : Kept} (h : ∀ a ∈ hs, GoodK n a) (hx : GoodK (n + 1) x) : ∀ a ∈ hs ++ [x], GoodK (n + 1) a := fun a ha => by
  rcases List.mem_append.1 ha with ha | ha
  · exact (h a ha).mono (by omega)
  · obtain rfl : a = x := by simpa using ha
    exact hx
theorem good_one {n : Nat} {x : Kept} (h : GoodK n x) : ∀ a ∈ [x], GoodK (n + 1) a := fun a ha => by
  obtain rfl : a = x := by simpa using ha
  exact h.mono (by omega)
theorem sizeS_same {s s' : Slab} (h1 : s'.sure = s.sure) (h2 : s'.loose = s.loose) : sizeS s' = sizeS s := by unfold sizeS; rw [h1, h2]
theorem lasts_put {n : Nat} {l : Lb} {s0 s1 : Slab} {hs : List Kept} (h : Lst n l s0 s1 hs) (name val : Bytes) :
    ∃ l' s0' s1' e, act2 (fun l s => putL l s name val) l s0 s1 = (l', s0', s1', e) ∧ Lst (n + 1) l' s0' s1' (hs ++ [l'.has]) ∧ (e ≠ 0 → l'.has = l.has) := by
  have hza := h.za
  rcases put_cases l (actS l s0 s1) name val with ⟨d, s', e, he, h0, h1, h2, hd⟩ | ⟨s', hd, hn, hv, he, h1, h2⟩
  · refine ⟨⟨l.at_, l.life, l.has, d⟩, (setA l s0 s1 s').1, (setA l s0 s1 s').2, e, by unfold act2; simp only [he], ?_, fun _ => rfl⟩
    exact h.step rfl rfl (good_snoc h.good (h.cg.mono (by omega))) (List.mem_append_right _ (List.mem_cons_self)) (by have := h.len; simp; omega) ((h.act.mono fun H hH => same_ex hH).bytes h1 h2) (fun H hH => ⟨hd hH.1, hH.2⟩) (by rw [sizeS_same h1 h2]; omega)
  · refine ⟨⟨l.at_, l.life, putG l.has name val, l.dead⟩, (setA l s0 s1 s').1, (setA l s0 s1 s').2, 0, by unfold act2; simp only [he], ?_, fun hc => absurd rfl hc⟩
    have hw := weigh_put l.has name val h.cg.nd
    have hw2 := h.cg.weight
    refine h.step rfl rfl (good_snoc h.good ⟨putG_nd h.cg.nd, h.cg.ok.put hn hv, by show weigh (putG l.has name val) ≤ _; omega⟩) (List.mem_append_right _ (List.mem_cons_self)) (by have := h.len; simp; omega) ?_ (fun H hH => absurd hd hH.1) ?_
    · exact h.act.push (2, name, val) ⟨⟨hn, hv⟩, .inl rfl⟩ h1 h2 (fun H hH => same_ex hH) fun t ht => ⟨ht.put _ _, _, List.mem_append_right _ (List.mem_cons_self), ht.put _ _⟩
    · unfold sizeS at hza ⊢
      rw [h1, h2, List.length_append, recB_len]
      simp only
      omega
theorem kept_small {l : Lb} {name : Bytes} (hk : KeptOk l.has) (hh : hasG l.has name = true) : name.length ≤ 255 := by
  rw [← getG_has] at hh
  cases hg : getG l.has name with
  | none => rw [hg] at hh; cases hh
  | some v => exact (hk name v hg).1
theorem lasts_drop {n : Nat} {l : Lb} {s0 s1 : Slab} {hs : List Kept} (h : Lst n l s0 s1 hs) (name : Bytes) :
    ∃ l' s0' s1' e, act2 (fun l s => dropL l s name) l s0 s1 = (l', s0', s1', e) ∧ Lst (n + 1) l' s0' s1' (hs ++ [l'.has]) := by
  have hza := h.za
  rcases drop_cases l (actS l s0 s1) name (kept_small h.cg.ok) with ⟨d, s', e, he, h0, h1, h2, hd⟩ | ⟨s', hd, hh, he, h1, h2⟩
  · refine ⟨⟨l.at_, l.life, l.has, d⟩, (setA l s0 s1 s').1, (setA l s0 s1 s').2, e, by unfold act2; simp only [he], ?_⟩
    exact h.step rfl rfl (good_snoc h.good (h.cg.mono (by omega))) (List.mem_append_right _ (List.mem_cons_self)) (by have := h.len; simp; omega) ((h.act.mono fun H hH => same_ex hH).bytes h1 h2) (fun H hH => ⟨hd hH.1, hH.2⟩) (by rw [sizeS_same h1 h2]; omega)
  · refine ⟨⟨l.at_, l.life, delG l.has name, l.dead⟩, (setA l s0 s1 s').1, (setA l s0 s1 s').2, 0, by unfold act2; simp only [he], ?_⟩
    have hn := kept_small h.cg.ok hh
    have hw := weigh_del l.has name
    have hw2 := h.cg.weight
    refine h.step rfl rfl (good_snoc h.good ⟨delG_nd h.cg.nd, h.cg.ok.del name, by show weigh (delG l.has name) ≤ _; omega⟩) (List.mem_append_right _ (List.mem_cons_self)) (by have := h.len; simp; omega) ?_ (fun H hH => absurd hd hH.1) ?_
    · exact h.act.push (3, name, []) ⟨⟨hn, by simp⟩, .inr (.inl rfl)⟩ h1 h2 (fun H hH => same_ex hH) fun t ht => ⟨ht.del _, _, List.mem_append_right _ (List.mem_cons_self), ht.del _⟩
    · unfold sizeS at hza ⊢
      rw [h1, h2, List.length_append, recB_len]
      simp only [List.length_nil]
      omega
theorem Lst.mono {n m : Nat} {l : Lb} {s0 s1 : Slab} {hs : List Kept} (h : Lst n l s0 s1 hs) (hm : n ≤ m) : Lst m l s0 s1 hs :=
  ⟨h.at_, h.life1, by have := h.life2; omega, fun x hx => (h.good x hx).mono hm, h.cur, h.act, h.oth, by have := h.z0; omega, by have := h.z1; omega, by have := h.len; omega⟩
theorem lasts_sync {n : Nat} {l : Lb} {s0 s1 : Slab} {hs : List Kept} (h : Lst n l s0 s1 hs) :
    ∃ l' s0' s1' e, act2 syncL l s0 s1 = (l', s0', s1', e) ∧ (e ≠ 0 → Lst (n + 1) l' s0' s1' hs) ∧ (e = 0 → Lst (n + 1) l' s0' s1' [l'.has]) := by
  have hza := h.za
  rcases lsync_cases l (actS l s0 s1) with ⟨d, s', e, he, h0, h1, h2, hd⟩ | ⟨s', hd, he, h1, h2⟩
  · refine ⟨⟨l.at_, l.life, l.has, d⟩, (setA l s0 s1 s').1, (setA l s0 s1 s').2, e, by unfold act2; simp only [he], fun _ => ?_, fun hc => absurd hc h0⟩
    exact h.step rfl rfl (fun x hx => (h.good x hx).mono (by omega)) h.cur (by have := h.len; omega) (h.act.bytes h1 h2) (fun H hH => ⟨hd hH.1, hH.2⟩) (by rw [sizeS_same h1 h2]; omega)
  · refine ⟨l, (setA l s0 s1 s').1, (setA l s0 s1 s').2, 0, by unfold act2; simp only [he], fun hc => absurd rfl hc, fun _ => ?_⟩
    refine h.step rfl rfl (good_one h.cg) (List.mem_cons_self) (by simp) (h.act.sync h1 h2 fun H hH => ⟨_, List.mem_cons_self, hH⟩) (fun H hH => hH) ?_
    unfold sizeS at hza ⊢
    rw [h1, h2, List.length_append, List.length_nil]
    omega
theorem setO_z {n : Nat} {l : Lb} {s0 s1 s' : Slab} (z0 : sizeS s0 ≤ 18 + 4358 * n) (z1 : sizeS s1 ≤ 18 + 4358 * n) (hz : sizeS s' ≤ 18 + 4358 * (n + 1)) : sizeS (setO l s0 s1 s').1 ≤ 18 + 4358 * (n + 1) ∧ sizeS (setO l s0 s1 s').2 ≤ 18 + 4358 * (n + 1) := by
  unfold setO
  split
  · exact ⟨by show sizeS s0 ≤ _; omega, hz⟩
  · exact ⟨hz, by show sizeS s1 ≤ _; omega⟩
theorem setO_keep {l l' : Lb} (s0 s1 s : Slab) (h : l'.at_ = l.at_) : actS l' (setO l s0 s1 s).1 (setO l s0 s1 s).2 = actS l s0 s1 ∧ othS l' (setO l s0 s1 s).1 (setO l s0 s1 s).2 = s := by
  unfold actS othS setO
  rw [h]
  split <;> exact ⟨rfl, rfl⟩
theorem othS_z {n : Nat} {l : Lb} {s0 s1 : Slab} (z0 : sizeS s0 ≤ n) (z1 : sizeS s1 ≤ n) : sizeS (othS l s0 s1) ≤ n := by
  unfold othS; split
  · exact z1
  · exact z0
theorem lasts_compact {n : Nat} {l : Lb} {s0 s1 : Slab} {hs : List Kept} (h : Lst n l s0 s1 hs) (hn : n ≤ 50) :
    ∃ l' s0' s1' e, compact2 l s0 s1 = (l', s0', s1', e) ∧ (e ≠ 0 → Lst (n + 1) l' s0' s1' hs) ∧ (e = 0 → Lst (n + 1) l' s0' s1' [l'.has]) := by
  have hlen := compactB_len l h.cg.nd
  have hw := h.cg.weight
  have hl1 := h.life1
  have hl2 := h.life2
  have hzo := othS_z (l := l) h.z0 h.z1
  rcases compact_cases l (othS l s0 s1) with ⟨d, s', e, he, h0, hd, hb⟩ | ⟨s', hd, he, h1, h2, _⟩
  · obtain ⟨e1, e2⟩ := setO_keep (l := l) (l' := ⟨l.at_, l.life, l.has, d⟩) s0 s1 s' rfl
    refine ⟨⟨l.at_, l.life, l.has, d⟩, (setO l s0 s1 s').1, (setO l s0 s1 s').2, e, by unfold compact2; simp only [he], fun _ => ?_, fun hc => absurd hc h0⟩
    have hz : sizeS s' ≤ 18 + 4358 * (n + 1) := by
      rcases hb with ⟨b1, b2⟩ | ⟨_, b1, b2⟩ | ⟨_, b1, b2⟩
      · rw [sizeS_same b1 b2]; omega
      · unfold sizeS; rw [b1, b2]; simp
      · unfold sizeS; rw [b1, b2, hlen]; simp; omega
    have hzz := setO_z (l := l) h.z0 h.z1 hz
    refine ⟨h.at_, hl1, by show l.life ≤ _; omega, fun x hx => (h.good x hx).mono (by omega), h.cur, by rw [e1]; exact h.act, ?_, hzz.1, hzz.2, by have := h.len; omega⟩
    rw [e2]
    rcases hb with ⟨b1, b2⟩ | ⟨_, b1, b2⟩ | ⟨hd0, b1, b2⟩
    · exact (h.oth.mono fun H hH => ⟨hd hH.1, hH.2⟩).bytes b1 b2
    · exact OthOk.empty b1 b2
    · exact OthOk.laid (l := l) h.cg.ok ⟨by omega, by omega⟩ b1 b2 fun H hH => ⟨hd0, hH⟩
  · obtain ⟨e1, e2⟩ := setO_act (l := l) (l' := ⟨1 - l.at_, l.life + 1, l.has, l.dead⟩) s0 s1 s' h.at_ rfl
    refine ⟨⟨1 - l.at_, l.life + 1, l.has, l.dead⟩, (setO l s0 s1 s').1, (setO l s0 s1 s').2, 0, by unfold compact2; simp only [he], fun hc => absurd rfl hc, fun _ => ?_⟩
    have hz : sizeS s' ≤ 18 + 4358 * (n + 1) := by unfold sizeS; rw [h1, h2, hlen]; simp; omega
    have hzz := setO_z (l := l) h.z0 h.z1 hz
    have hat := h.at_
    exact ⟨by show 1 - l.at_ = 0 ∨ 1 - l.at_ = 1; omega, by show 1 ≤ l.life + 1; omega, by show l.life + 1 ≤ _; omega, good_one h.cg, List.mem_cons_self,
      by rw [e1]; exact ActOk.fresh h.cg.ok h1 h2 fun H hH => ⟨_, List.mem_cons_self, hH⟩, by rw [e2]; exact OthOk.of_act h.act ⟨by omega, by omega⟩ (by show l.life < l.life + 1; omega), hzz.1, hzz.2, by simp⟩
theorem fuseS_bytes (s : Slab) (x : Int) : (fuseS s x).sure = s.sure ∧ (fuseS s x).loose = s.loose := by
  unfold fuseS; split <;> exact ⟨rfl, rfl⟩
theorem lasts_fuse {n : Nat} {l : Lb} {s0 s1 s0' s1' : Slab} {hs : List Kept} (h : Lst n l s0 s1 hs) (a0 : s0'.sure = s0.sure ∧ s0'.loose = s0.loose) (a1 : s1'.sure = s1.sure ∧ s1'.loose = s1.loose) : Lst n l s0' s1' hs := by
  have hA : (actS l s0' s1').sure = (actS l s0 s1).sure ∧ (actS l s0' s1').loose = (actS l s0 s1).loose := by
    unfold actS; split
    · exact a0
    · exact a1
  have hO : (othS l s0' s1').sure = (othS l s0 s1).sure ∧ (othS l s0' s1').loose = (othS l s0 s1).loose := by
    unfold othS; split
    · exact a1
    · exact a0
  exact ⟨h.at_, h.life1, h.life2, h.good, h.cur, h.act.bytes hA.1 hA.2, h.oth.bytes hO.1 hO.2, by rw [sizeS_same a0.1 a0.2]; exact h.z0, by rw [sizeS_same a1.1 a1.2]; exact h.z1, h.len⟩
theorem crash_size (s : Slab) (k z : Int) : sizeS (crashS s k z) ≤ sizeS s := by
  have h1 := keepN_le k s.loose.length
  have h2 := keepN_le z (s.loose.length - keepN k s.loose.length)
  unfold sizeS crashS
  simp only [List.length_append, List.length_take, List.length_replicate, List.length_nil]
  omega
theorem crash_bytes (s : Slab) (k z : Int) : ∃ k' z', bytesS (crashS s k z) = s.sure ++ (s.loose.take k' ++ List.replicate z' 0) := by
  refine ⟨keepN k s.loose.length, keepN z (s.loose.length - keepN k s.loose.length), ?_⟩
  unfold bytesS crashS
  simp
theorem rep_app (a b : Nat) : List.replicate a (0 : UInt8) ++ List.replicate b 0 = List.replicate (a + b) 0 := by
  rw [List.replicate_append_replicate]
theorem OthOk.crash {s : Slab} {life : Int} {Q : Kept → Prop} (h : OthOk s life Q) (k z : Int) : OthOk (crashS s k z) life Q := fun k2 z2 => by
  have e : (crashS s k z).sure ++ ((crashS s k z).loose.take k2 ++ List.replicate z2 0) = s.sure ++ (s.loose.take (keepN k s.loose.length) ++ List.replicate (keepN z (s.loose.length - keepN k s.loose.length) + z2) 0) := by
    unfold crashS
    rw [← rep_app]
    simp
  rw [e]
  exact h _ _
theorem OthOk.up {s : Slab} {life life' : Int} {Q Q' : Kept → Prop} (h : OthOk s life Q) (hlt : life + 1 < life') : OthOk s life' Q' := fun k z hs => by
  rcases h k z hs with h1 | ⟨h1, _⟩
  · exact .inl (by omega)
  · exact .inl (by omega)
theorem crash_calm (s : Slab) (k z : Int) : calm (crashS s k z) := ⟨rfl, by show (-1 : Int) < 0; decide⟩
/-- A new life behind an opening. -/
theorem lasts_new {n : Nat} {l : Lb} {s0 s1 : Slab} (hat : l.at_ = 0 ∨ l.at_ = 1) (hd : l.dead = 0) (hl1 : 0 ≤ l.life) (hl2 : l.life + 1 ≤ 2 * (n + 1) + 1) (hg : GoodK n l.has) (c0 : calm s0) (c1 : calm s1) (z0 : sizeS s0 ≤ 18 + 4358 * n) (z1 : sizeS s1 ≤ 18 + 4358 * n)
    (hoth : OthOk (actS l s0 s1) (l.life + 1) (fun _ => False)) (hn : n ≤ 50) :
    ∃ l' s0' s1', compact2 l s0 s1 = (l', s0', s1', 0) ∧ Lst (n + 1) l' s0' s1' [l'.has] ∧ l'.has = l.has := by
  have hlen := compactB_len l hg.nd
  have hw := hg.weight
  have hco : calm (othS l s0 s1) := by
    unfold othS; split
    · exact c1
    · exact c0
  have hp := compact_calm hd (by omega) hco (by omega)
  rcases compact_cases l (othS l s0 s1) with ⟨d, s', e, he, h0, _⟩ | ⟨s', _, he, h1, h2, _⟩
  · rw [he] at hp; exact absurd hp.1 h0
  · obtain ⟨e1, e2⟩ := setO_act (l := l) (l' := ⟨1 - l.at_, l.life + 1, l.has, l.dead⟩) s0 s1 s' hat rfl
    have hz : sizeS s' ≤ 18 + 4358 * (n + 1) := by unfold sizeS; rw [h1, h2, hlen]; simp; omega
    have hzz := setO_z (l := l) z0 z1 hz
    refine ⟨⟨1 - l.at_, l.life + 1, l.has, l.dead⟩, (setO l s0 s1 s').1, (setO l s0 s1 s').2, by unfold compact2; simp only [he], ?_, rfl⟩
    exact ⟨by show 1 - l.at_ = 0 ∨ 1 - l.at_ = 1; omega, by show 1 ≤ l.life + 1; omega, by show l.life + 1 ≤ _; omega, good_one hg, List.mem_cons_self,
      by rw [e1]; exact ActOk.fresh hg.ok h1 h2 fun H hH => ⟨_, List.mem_cons_self, hH⟩, by rw [e2]; exact hoth.mono fun _ hf => hf.elim, hzz.1, hzz.2, by simp⟩
theorem lasts_open {n : Nat} {l : Lb} {s0 s1 : Slab} {hs : List Kept} (h : Lst n l s0 s1 hs) (hn : n ≤ 50) (k0 z0 k1 z1 : Int) :
    ∃ l' s0' s1', openS (crashS s0 k0 z0) (crashS s1 k1 z1) = (l', s0', s1', 0) ∧ Lst (n + 1) l' s0' s1' [l'.has] ∧ ∃ x ∈ hs, SameG l'.has x := by
  have hl1 := h.life1
  have hl2 := h.life2
  have hu : isU32 l.life := ⟨by omega, by omega⟩
  have c0 := crash_calm s0 k0 z0
  have c1 := crash_calm s1 k1 z1
  have w0 := crash_size s0 k0 z0
  have w1 := crash_size s1 k1 z1
  have hz0 := h.z0
  have hz1 := h.z1
  have hdn : ¬ ((crashS s0 k0 z0).down = true ∨ (crashS s1 k1 z1).down = true) := by rintro (h2 | h2) <;> cases h2
  rw [openS, if_neg hdn]
  -- both slabs, in the order in which they stand
  have hA : ∃ k z, actS l (crashS s0 k0 z0) (crashS s1 k1 z1) = crashS (actS l s0 s1) k z := by
    unfold actS; split
    · exact ⟨_, _, rfl⟩
    · exact ⟨_, _, rfl⟩
  have hO : ∃ k z, othS l (crashS s0 k0 z0) (crashS s1 k1 z1) = crashS (othS l s0 s1) k z := by
    unfold othS; split
    · exact ⟨_, _, rfl⟩
    · exact ⟨_, _, rfl⟩
  obtain ⟨ka, za, hA⟩ := hA
  obtain ⟨ko, zo, hO⟩ := hO
  have goodOf : ∀ H x, x ∈ hs → SameG H x → (H.map Prod.fst).Nodup → GoodK n H := fun H x hx hs hnd => by
    have g := h.good x hx
    exact ⟨hnd, KeptOk.same hs g.ok, by rw [weigh_perm (SameG.perm hnd g.nd hs)]; exact g.weight⟩
  rcases pick_ok l.at_ (crashS s0 k0 z0) (crashS s1 k1 z1) l.life (fun H => (∃ x ∈ hs, SameG H x) ∧ (H.map Prod.fst).Nodup) (fun H => SameG H l.has ∧ (H.map Prod.fst).Nodup) h.at_ (by omega) (by
      have hb := crash_bytes (actS l s0 s1) ka za
      obtain ⟨k', z', hb⟩ := hb
      obtain ⟨H, h1, h2, _⟩ := h.act.torn hu k' z'
      refine ⟨H, ?_, h2, ?_⟩
      · show tell (bytesS (actS l (crashS s0 k0 z0) (crashS s1 k1 z1))) = _
        rw [hA, hb]; exact h1
      · have := (tell_ok (p := (actS l s0 s1).sure ++ ((actS l s0 s1).loose.take k' ++ List.replicate z' 0))).nd
        rw [h1] at this
        exact this) (fun hsh => by
      have hsh : (tell (bytesS (othS l (crashS s0 k0 z0) (crashS s1 k1 z1)))).shut = true := hsh
      show (tell (bytesS (othS l (crashS s0 k0 z0) (crashS s1 k1 z1)))).life < l.life ∨ ((tell (bytesS (othS l (crashS s0 k0 z0) (crashS s1 k1 z1)))).life = l.life + 1 ∧ SameG (tell (bytesS (othS l (crashS s0 k0 z0) (crashS s1 k1 z1)))).has l.has ∧ ((tell (bytesS (othS l (crashS s0 k0 z0) (crashS s1 k1 z1)))).has.map Prod.fst).Nodup)
      have hnd := (tell_ok (bytesS (othS l (crashS s0 k0 z0) (crashS s1 k1 z1)))).nd
      rw [hO] at hsh hnd ⊢
      rcases (h.oth.crash ko zo).all hsh with h1 | ⟨h1, h2⟩
      · exact .inl h1
      · exact .inr ⟨h1, h2.2, hnd⟩) with ⟨H, he, ⟨x, hx, hs2⟩, hnd⟩ | ⟨H, he, hs2, hnd⟩
  · rw [he]
    obtain ⟨l', s0', s1', e1, e2, e3⟩ := lasts_new (l := ⟨l.at_, l.life, H, 0⟩) h.at_ rfl (by show 0 ≤ l.life; omega) (by show l.life + 1 ≤ _; omega) (goodOf H x hx hs2 hnd) c0 c1 (by omega) (by omega) (by
      have e : actS ⟨l.at_, l.life, H, 0⟩ (crashS s0 k0 z0) (crashS s1 k1 z1) = actS l (crashS s0 k0 z0) (crashS s1 k1 z1) := rfl
      rw [e, hA]
      exact (OthOk.of_act h.act hu (by show l.life < l.life + 1; omega)).crash ka za) hn
    exact ⟨l', s0', s1', e1, e2, x, hx, by rw [e3]; exact hs2⟩
  · rw [he]
    obtain ⟨l', s0', s1', e1, e2, e3⟩ := lasts_new (l := ⟨1 - l.at_, l.life + 1, H, 0⟩) (by have := h.at_; show 1 - l.at_ = 0 ∨ 1 - l.at_ = 1; omega) rfl (by show 0 ≤ l.life + 1; omega) (by show l.life + 1 + 1 ≤ _; omega) (goodOf H _ h.cur hs2 hnd) c0 c1 (by omega) (by omega) (by
      have e : actS ⟨1 - l.at_, l.life + 1, H, 0⟩ (crashS s0 k0 z0) (crashS s1 k1 z1) = othS l (crashS s0 k0 z0) (crashS s1 k1 z1) := by
        unfold actS othS
        rcases h.at_ with hz | hz
        · rw [if_neg (show ¬ 1 - l.at_ = 0 by omega), if_pos hz]
        · rw [if_pos (show 1 - l.at_ = 0 by omega), if_neg (show ¬ l.at_ = 0 by omega)]
      rw [e, hO]
      exact (h.oth.crash ko zo).up (by show l.life + 1 < l.life + 1 + 1; omega)) hn
    exact ⟨l', s0', s1', e1, e2, l.has, h.cur, by rw [e3]; exact hs2⟩
theorem lasts_start : Lst 0 ⟨0, 1, [], 0⟩ sA1 newS [[]] := by
  refine ⟨.inl rfl, by decide, by decide, fun h hh => ?_, List.mem_cons_self, ?_, OthOk.empty rfl rfl, by decide, by decide, by simp⟩
  · obtain rfl : h = [] := by simpa using hh
    exact ⟨by simp, fun k v h => by simp [getG] at h, by simp [weigh]⟩
  · exact ActOk.fresh (l := ⟨1, 0, [], 0⟩) (s := sA1) (fun k v h => by simp [getG] at h) (by rw [compactB_nil]; rfl) rfl fun H hH => ⟨[], List.mem_cons_self, hH⟩

end Go.Proofs.Ytcbbogaanebefaa