/-
  THE PLAIN LAW of LogbookLives: what holds behind n steps without faults. Conditions: at most 40 steps.
-/
import Derived.Test.YtcbbogaanebefaaB20
namespace Go.Proofs.Ytcbbogaanebefaa
open Fw
set_option linter.unusedVariables false
set_option linter.unusedSimpArgs false

structure Inv (n : Nat) (l : Lb) (s0 s1 : Slab) : Prop where
  at_ : l.at_ = 0 ∨ l.at_ = 1
  dead : l.dead = 0
  life1 : 1 ≤ l.life
  life2 : l.life ≤ n + 1
  nd : (l.has.map Prod.fst).Nodup
  ok : KeptOk l.has
  weight : weigh l.has ≤ 4358 * n
  c0 : calm s0
  c1 : calm s1
  act : ActOk (actS l s0 s1) l.life (fun _ => True) l.has
  oth : OthOk (othS l s0 s1) l.life (fun _ => False)
  z0 : sizeS s0 ≤ 18 + 4358 * n
  z1 : sizeS s1 ≤ 18 + 4358 * n
theorem Inv.mono {n m : Nat} {l : Lb} {s0 s1 : Slab} (h : Inv n l s0 s1) (hm : n ≤ m) : Inv m l s0 s1 :=
  ⟨h.at_, h.dead, h.life1, by have := h.life2; omega, h.nd, h.ok, by have := h.weight; omega, h.c0, h.c1, h.act, h.oth, by have := h.z0; omega, by have := h.z1; omega⟩
theorem Inv.ca {n : Nat} {l : Lb} {s0 s1 : Slab} (h : Inv n l s0 s1) : calm (actS l s0 s1) := by
  unfold actS; split
  · exact h.c0
  · exact h.c1
theorem Inv.za {n : Nat} {l : Lb} {s0 s1 : Slab} (h : Inv n l s0 s1) : sizeS (actS l s0 s1) ≤ 18 + 4358 * n := by
  unfold actS; split
  · exact h.z0
  · exact h.z1
theorem setA_same (l : Lb) (s0 s1 : Slab) : setA l s0 s1 (actS l s0 s1) = (s0, s1) := by
  unfold setA actS
  split <;> rfl
theorem setA_act {l l' : Lb} (s0 s1 s : Slab) (h : l'.at_ = l.at_) : actS l' (setA l s0 s1 s).1 (setA l s0 s1 s).2 = s ∧ othS l' (setA l s0 s1 s).1 (setA l s0 s1 s).2 = othS l s0 s1 := by
  unfold actS othS setA
  rw [h]
  split <;> exact ⟨rfl, rfl⟩
theorem setO_act {l l' : Lb} (s0 s1 s : Slab) (hat : l.at_ = 0 ∨ l.at_ = 1) (h : l'.at_ = 1 - l.at_) : actS l' (setO l s0 s1 s).1 (setO l s0 s1 s).2 = s ∧ othS l' (setO l s0 s1 s).1 (setO l s0 s1 s).2 = actS l s0 s1 := by
  unfold actS othS setO
  rw [h]
  rcases hat with hz | hz
  · rw [if_neg (by omega), if_pos hz]; rw [if_neg (by omega), if_pos hz]; exact ⟨rfl, rfl⟩
  · have hn : ¬ l.at_ = 0 := by omega
    rw [if_pos (by omega), if_neg hn]; rw [if_pos (by omega), if_neg hn]; exact ⟨rfl, rfl⟩
theorem Inv.step {n : Nat} {l l' : Lb} {s0 s1 s' : Slab} (h : Inv n l s0 s1) (ha : l'.at_ = l.at_) (hl : l'.life = l.life) (hd : l'.dead = 0) (hnd : (l'.has.map Prod.fst).Nodup) (hok : KeptOk l'.has) (hw : weigh l'.has ≤ 4358 * (n + 1)) (hc : calm s')
    (hact : ActOk s' l.life (fun _ => True) l'.has) (hz : sizeS s' ≤ 18 + 4358 * (n + 1)) : Inv (n + 1) l' (setA l s0 s1 s').1 (setA l s0 s1 s').2 := by
  obtain ⟨e1, e2⟩ := setA_act (l := l) (l' := l') s0 s1 s' ha
  have hcs : calm (setA l s0 s1 s').1 ∧ calm (setA l s0 s1 s').2 ∧ sizeS (setA l s0 s1 s').1 ≤ 18 + 4358 * (n + 1) ∧ sizeS (setA l s0 s1 s').2 ≤ 18 + 4358 * (n + 1) := by
    have := h.z0
    have := h.z1
    unfold setA
    split
    · exact ⟨hc, h.c1, hz, by show sizeS s1 ≤ _; omega⟩
    · exact ⟨h.c0, hc, by show sizeS s0 ≤ _; omega, hz⟩
  exact ⟨by rw [ha]; exact h.at_, hd, by rw [hl]; exact h.life1, by rw [hl]; have := h.life2; omega, hnd, hok, hw, hcs.1, hcs.2.1, by rw [e1, hl]; exact hact, by rw [e2, hl]; exact h.oth, hcs.2.2.1, hcs.2.2.2⟩
theorem lives_put {n : Nat} {l : Lb} {s0 s1 : Slab} (h : Inv n l s0 s1) (hn : n ≤ 40) (name val : Bytes) :
    ∃ l' s0' s1' e, act2 (fun l s => putL l s name val) l s0 s1 = (l', s0', s1', e) ∧ Inv (n + 1) l' s0' s1' ∧ l'.life = l.life ∧ ((e = 0 ∧ l'.has = putG l.has name val) ∨ (e ≠ 0 ∧ l'.has = l.has)) := by
  have hca := h.ca
  have hza := h.za
  by_cases hlim : name.length ≤ 255 ∧ val.length ≤ 4096
  · have hp := put_calm (name := name) (val := val) h.dead hca hlim.1 hlim.2 (by omega)
    rcases put_cases l (actS l s0 s1) name val with ⟨d, s', e, he, h0, _⟩ | ⟨s', hd, _, _, he, h1, h2⟩
    · rw [he] at hp; exact absurd hp.1 h0
    · rw [he] at hp
      refine ⟨⟨l.at_, l.life, putG l.has name val, l.dead⟩, (setA l s0 s1 s').1, (setA l s0 s1 s').2, 0, by unfold act2; simp only [he], ?_, rfl, .inl ⟨rfl, rfl⟩⟩
      refine h.step rfl rfl h.dead (putG_nd h.nd) (h.ok.put hlim.1 hlim.2) ?_ hp.2 (h.act.push (2, name, val) ⟨hlim, .inl rfl⟩ h1 h2 (fun _ h => h) fun t ht => ⟨ht.put _ _, trivial⟩) ?_
      · have := weigh_put l.has name val h.nd
        have := h.weight
        show weigh (putG l.has name val) ≤ _
        omega
      · unfold sizeS at hza ⊢
        rw [h1, h2, List.length_append, recB_len]
        simp only
        omega
  · have he : putL l (actS l s0 s1) name val = (l, actS l s0 s1, 8) := by
      unfold putL
      rw [if_neg (fun h2 => h2 h.dead), if_pos (by omega)]
    refine ⟨l, s0, s1, 8, by unfold act2; simp only [he, setA_same], h.mono (by omega), rfl, .inr ⟨by decide, rfl⟩⟩
theorem lives_drop {n : Nat} {l : Lb} {s0 s1 : Slab} (h : Inv n l s0 s1) (hn : n ≤ 40) (name : Bytes) :
    ∃ l' s0' s1' e, act2 (fun l s => dropL l s name) l s0 s1 = (l', s0', s1', e) ∧ Inv (n + 1) l' s0' s1' ∧ l'.life = l.life ∧ (e = 0 ↔ hasG l.has name = true) ∧ SameG l'.has (delG l.has name) := by
  have hca := h.ca
  have hza := h.za
  have hnl : hasG l.has name = true → name.length ≤ 255 := fun hh => by
    rw [← getG_has] at hh
    cases hg : getG l.has name with
    | none => rw [hg] at hh; cases hh
    | some v => exact (h.ok name v hg).1
  cases hh : hasG l.has name with
  | false =>
    have he : dropL l (actS l s0 s1) name = (l, actS l s0 s1, 6) := by
      unfold dropL
      rw [if_neg (fun h2 => h2 h.dead), if_pos (by rw [hh]; decide)]
    refine ⟨l, s0, s1, 6, by unfold act2; simp only [he, setA_same], h.mono (by omega), rfl, by simp, fun k => ?_⟩
    rw [getG_del]
    split
    · rename_i hk
      rw [hk]
      cases hg : getG l.has name with
      | none => rfl
      | some v => rw [← getG_has, hg] at hh; cases hh
    · rfl
  | true =>
    have hp := drop_calm (name := name) h.dead hca (by have := hnl hh; omega)
    rcases drop_cases l (actS l s0 s1) name hnl with ⟨d, s', e, he, h0, _⟩ | ⟨s', hd, _, he, h1, h2⟩
    · rw [he] at hp; exact absurd (hp.1.2 hh) h0
    · rw [he] at hp
      refine ⟨⟨l.at_, l.life, delG l.has name, l.dead⟩, (setA l s0 s1 s').1, (setA l s0 s1 s').2, 0, by unfold act2; simp only [he], ?_, rfl, by simp, fun k => rfl⟩
      refine h.step rfl rfl h.dead (delG_nd h.nd) (h.ok.del name) ?_ hp.2.1 (h.act.push (3, name, []) ⟨⟨hnl hh, by simp⟩, .inr (.inl rfl)⟩ h1 h2 (fun _ h => h) fun t ht => ⟨ht.del _, trivial⟩) ?_
      · have := weigh_del l.has name
        have := h.weight
        show weigh (delG l.has name) ≤ _
        omega
      · have := hnl hh
        unfold sizeS at hza ⊢
        rw [h1, h2, List.length_append, recB_len]
        simp only [List.length_nil]
        omega
theorem lives_sync {n : Nat} {l : Lb} {s0 s1 : Slab} (h : Inv n l s0 s1) :
    ∃ l' s0' s1', act2 syncL l s0 s1 = (l', s0', s1', 0) ∧ Inv (n + 1) l' s0' s1' ∧ l'.life = l.life ∧ l'.has = l.has := by
  have hp := lsync_calm h.dead h.ca
  have hza := h.za
  rcases lsync_cases l (actS l s0 s1) with ⟨d, s', e, he, h0, _⟩ | ⟨s', hd, he, h1, h2⟩
  · rw [he] at hp; exact absurd hp.1 h0
  · rw [he] at hp
    refine ⟨l, (setA l s0 s1 s').1, (setA l s0 s1 s').2, by unfold act2; simp only [he], ?_, rfl, rfl⟩
    refine h.step rfl rfl h.dead h.nd h.ok (by have := h.weight; omega) hp.2 (h.act.sync h1 h2 fun _ _ => trivial) ?_
    unfold sizeS at hza ⊢
    rw [h1, h2, List.length_append, List.length_nil]
    omega
/-- A new life. -/
theorem inv_compact {n : Nat} {l : Lb} {s0 s1 : Slab} (hat : l.at_ = 0 ∨ l.at_ = 1) (hd : l.dead = 0) (hl : 0 ≤ l.life) (hl2 : l.life ≤ n + 1) (hnd : (l.has.map Prod.fst).Nodup) (hok : KeptOk l.has) (hw : weigh l.has ≤ 4358 * n) (c0 : calm s0) (c1 : calm s1) (z0 : sizeS s0 ≤ 18 + 4358 * n) (z1 : sizeS s1 ≤ 18 + 4358 * n)
    (hoth : OthOk (actS l s0 s1) (l.life + 1) (fun _ => False)) (hn : n ≤ 40) :
    ∃ l' s0' s1', compact2 l s0 s1 = (l', s0', s1', 0) ∧ Inv (n + 1) l' s0' s1' ∧ l'.life = l.life + 1 ∧ l'.has = l.has := by
  have hlen := compactB_len l hnd
  have hco : calm (othS l s0 s1) := by
    unfold othS; split
    · exact c1
    · exact c0
  have hp := compact_calm hd (by omega) hco (by omega)
  rcases compact_cases l (othS l s0 s1) with ⟨d, s', e, he, h0, _⟩ | ⟨s', _, he, h1, h2, _⟩
  · rw [he] at hp; exact absurd hp.1 h0
  · rw [he] at hp
    refine ⟨⟨1 - l.at_, l.life + 1, l.has, l.dead⟩, (setO l s0 s1 s').1, (setO l s0 s1 s').2, by unfold compact2; simp only [he], ?_, rfl, rfl⟩
    obtain ⟨e1, e2⟩ := setO_act (l := l) (l' := ⟨1 - l.at_, l.life + 1, l.has, l.dead⟩) s0 s1 s' hat rfl
    have hz : sizeS s' ≤ 18 + 4358 * (n + 1) := by
      unfold sizeS
      rw [h1, h2, hlen, List.length_nil]
      omega
    have hcs : calm (setO l s0 s1 s').1 ∧ calm (setO l s0 s1 s').2 ∧ sizeS (setO l s0 s1 s').1 ≤ 18 + 4358 * (n + 1) ∧ sizeS (setO l s0 s1 s').2 ≤ 18 + 4358 * (n + 1) := by
      unfold setO
      split
      · exact ⟨c0, hp.2, by show sizeS s0 ≤ _; omega, hz⟩
      · exact ⟨hp.2, c1, hz, by show sizeS s1 ≤ _; omega⟩
    exact ⟨by show 1 - l.at_ = 0 ∨ 1 - l.at_ = 1; omega, hd, by show 1 ≤ l.life + 1; omega, by show l.life + 1 ≤ _; omega, hnd, hok, by show weigh l.has ≤ _; omega, hcs.1, hcs.2.1, by rw [e1]; exact ActOk.fresh hok h1 h2 fun _ _ => trivial, by rw [e2]; exact hoth, hcs.2.2.1, hcs.2.2.2⟩
theorem lives_compact {n : Nat} {l : Lb} {s0 s1 : Slab} (h : Inv n l s0 s1) (hn : n ≤ 40) :
    ∃ l' s0' s1', compact2 l s0 s1 = (l', s0', s1', 0) ∧ Inv (n + 1) l' s0' s1' ∧ l'.life = l.life + 1 ∧ l'.has = l.has :=
  inv_compact h.at_ h.dead (by have := h.life1; omega) h.life2 h.nd h.ok h.weight h.c0 h.c1 h.z0 h.z1 (OthOk.of_act h.act ⟨by have := h.life1; omega, by have := h.life2; omega⟩ (by omega)) hn
theorem lives_open {n : Nat} {l : Lb} {s0 s1 : Slab} (h : Inv n l s0 s1) (hn : n ≤ 40) :
    ∃ l' s0' s1', openS s0 s1 = (l', s0', s1', 0) ∧ Inv (n + 1) l' s0' s1' ∧ l'.life = l.life + 1 ∧ SameG l'.has l.has := by
  have hl1 := h.life1
  have hl2 := h.life2
  have hu : isU32 l.life := ⟨by omega, by omega⟩
  have hact := h.act.all hu
  have hdn : ¬ (s0.down = true ∨ s1.down = true) := by
    rintro (h2 | h2)
    · rw [h.c0.1] at h2; cases h2
    · rw [h.c1.1] at h2; cases h2
  rw [openS, if_neg hdn]
  rcases pick_ok l.at_ s0 s1 l.life (fun H => SameG H l.has ∧ (H.map Prod.fst).Nodup) (fun _ => False) h.at_ (by omega) (by
      obtain ⟨H, h1, _, h3⟩ := hact
      refine ⟨H, h1, h3, ?_⟩
      have := (tell_ok (bytesS (actS l s0 s1))).nd
      rw [h1] at this
      exact this) (fun hs => h.oth.all hs) with ⟨H, he, hs, hnd⟩ | ⟨H, _, hf⟩
  · rw [he]
    have hw : weigh H = weigh l.has := weigh_perm (SameG.perm hnd h.nd hs)
    obtain ⟨l', s0', s1', e1, e2, e3, e4⟩ := inv_compact (l := ⟨l.at_, l.life, H, 0⟩) (s0 := s0) (s1 := s1) h.at_ rfl (by show 0 ≤ l.life; omega) hl2 hnd (KeptOk.same hs h.ok) (by rw [hw]; exact h.weight) h.c0 h.c1 h.z0 h.z1 (OthOk.of_act h.act hu (by show l.life < l.life + 1; omega)) hn
    exact ⟨l', s0', s1', e1, e2, e3, by rw [e4]; exact hs⟩
  · exact hf.elim
theorem lives_start : Inv 0 ⟨0, 1, [], 0⟩ sA1 newS := by
  refine ⟨.inl rfl, rfl, by decide, by decide, by simp, fun k v h => by simp [getG] at h, by simp [weigh], ⟨rfl, by decide⟩, ⟨rfl, by decide⟩, ?_, OthOk.empty rfl rfl, by decide, by decide⟩
  exact ActOk.fresh (l := ⟨1, 0, [], 0⟩) (s := sA1) (fun k v h => by simp [getG] at h) (by rw [compactB_nil]; rfl) rfl fun _ _ => trivial

end Go.Proofs.Ytcbbogaanebefaa