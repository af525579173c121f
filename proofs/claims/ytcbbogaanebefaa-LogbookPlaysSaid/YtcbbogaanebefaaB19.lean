/-
  THE PLAIN LAW of a logbook's calls: Put, Drop, Sync, Compact, Open over two slabs, without faults. Conditions: sizes.
-/
import Derived.Test.YtcbbogaanebefaaB18
namespace Go.Proofs.Ytcbbogaanebefaa
open Fw
set_option linter.unusedVariables false
set_option linter.unusedSimpArgs false

def calm (s : Slab) : Prop := s.down = false ∧ s.fuse < 0
theorem stepS_calm {s : Slab} (h : calm s) : (stepS s).2 = 0 ∧ calm (stepS s).1 := by
  have h0 : ¬ s.fuse = 0 := by have := h.2; omega
  have h1 : ¬ s.fuse > 0 := by have := h.2; omega
  unfold stepS
  rw [if_neg h0, if_neg h1]
  exact ⟨rfl, h.1, h.2⟩
theorem append_cases (s : Slab) (p : Bytes) : ((appendS s p).2 ≠ 0 ∧ (appendS s p).1.sure = s.sure ∧ (appendS s p).1.loose = s.loose) ∨ ((appendS s p).2 = 0 ∧ (appendS s p).1.sure = s.sure ∧ (appendS s p).1.loose = s.loose ++ p) := by
  have h := stepS_same s
  unfold appendS
  split
  · exact .inl ⟨by simp, rfl, rfl⟩
  · split
    · exact .inl ⟨by simp, rfl, rfl⟩
    · split
      · rename_i h2; exact .inl ⟨h2, h⟩
      · exact .inr ⟨rfl, h.1, by rw [h.2]⟩
theorem append_calm {s : Slab} {p : Bytes} (h : calm s) (hs : sizeS s + p.length ≤ 262144) : (appendS s p).2 = 0 ∧ calm (appendS s p).1 := by
  have h2 := stepS_calm h
  unfold sizeS at hs
  unfold appendS
  rw [if_neg (by rw [h.1]; decide), if_neg (by omega), if_neg (fun h => h h2.1)]
  exact ⟨rfl, h2.2⟩
theorem sync_cases (s : Slab) : ((syncS s).2 ≠ 0 ∧ (syncS s).1.sure = s.sure ∧ (syncS s).1.loose = s.loose) ∨ ((syncS s).2 = 0 ∧ (syncS s).1.sure = s.sure ++ s.loose ∧ (syncS s).1.loose = []) := by
  have h := stepS_same s
  unfold syncS
  split
  · exact .inl ⟨by simp, rfl, rfl⟩
  · split
    · rename_i h2; exact .inl ⟨h2, h⟩
    · exact .inr ⟨rfl, by rw [h.1, h.2], rfl⟩
theorem sync_calm {s : Slab} (h : calm s) : (syncS s).2 = 0 ∧ calm (syncS s).1 := by
  have h2 := stepS_calm h
  unfold syncS
  rw [if_neg (by rw [h.1]; decide), if_neg (fun h => h h2.1)]
  exact ⟨rfl, h2.2⟩
theorem erase_cases (s : Slab) : ((eraseS s).2 ≠ 0 ∧ (eraseS s).1.sure = s.sure ∧ (eraseS s).1.loose = s.loose) ∨ ((eraseS s).2 = 0 ∧ (eraseS s).1.sure = [] ∧ (eraseS s).1.loose = []) := by
  have h := stepS_same s
  unfold eraseS
  split
  · exact .inl ⟨by simp, rfl, rfl⟩
  · split
    · rename_i h2; exact .inl ⟨h2, h⟩
    · exact .inr ⟨rfl, rfl, rfl⟩
theorem erase_calm {s : Slab} (h : calm s) : (eraseS s).2 = 0 ∧ calm (eraseS s).1 := by
  have h2 := stepS_calm h
  unfold eraseS
  rw [if_neg (by rw [h.1]; decide), if_neg (fun h => h h2.1)]
  exact ⟨rfl, h2.2⟩
/-- Put, as it may go. -/
theorem put_cases (l : Lb) (sa : Slab) (name val : Bytes) :
    (∃ d s' e, putL l sa name val = (⟨l.at_, l.life, l.has, d⟩, s', e) ∧ e ≠ 0 ∧ s'.sure = sa.sure ∧ s'.loose = sa.loose ∧ (l.dead ≠ 0 → d ≠ 0)) ∨
    (∃ s', l.dead = 0 ∧ name.length ≤ 255 ∧ val.length ≤ 4096 ∧ putL l sa name val = (⟨l.at_, l.life, putG l.has name val, l.dead⟩, s', 0) ∧ s'.sure = sa.sure ∧ s'.loose = sa.loose ++ recB (2, name, val)) := by
  unfold putL
  split
  · rename_i hd; exact .inl ⟨l.dead, sa, l.dead, rfl, hd, rfl, rfl, id⟩
  · rename_i hd
    split
    · exact .inl ⟨l.dead, sa, 8, rfl, by decide, rfl, rfl, id⟩
    · rename_i hlim
      rcases append_cases sa (recF 2 name val) with ⟨he, h1, h2⟩ | ⟨he, h1, h2⟩
      · rw [if_pos he]
        refine .inl ⟨_, _, _, rfl, he, h1, h2, fun _ => ?_⟩
        rw [if_pos he]; exact he
      · rw [if_neg (fun h => h he)]
        exact .inr ⟨_, Decidable.not_not.1 hd, by omega, by omega, rfl, h1, h2⟩
theorem put_calm {l : Lb} {sa : Slab} {name val : Bytes} (hd : l.dead = 0) (hc : calm sa) (hn : name.length ≤ 255) (hv : val.length ≤ 4096) (hs : sizeS sa + (name.length + val.length + 7) ≤ 262144) : (putL l sa name val).2.2 = 0 ∧ calm (putL l sa name val).2.1 := by
  have h := append_calm (p := recF 2 name val) hc (by rw [recF_len]; omega)
  unfold putL
  rw [if_neg (fun h => h hd), if_neg (by omega), if_neg (fun h2 => h2 h.1)]
  exact ⟨rfl, h.2⟩
theorem drop_cases (l : Lb) (sa : Slab) (name : Bytes) (hnl : hasG l.has name = true → name.length ≤ 255) :
    (∃ d s' e, dropL l sa name = (⟨l.at_, l.life, l.has, d⟩, s', e) ∧ e ≠ 0 ∧ s'.sure = sa.sure ∧ s'.loose = sa.loose ∧ (l.dead ≠ 0 → d ≠ 0)) ∨
    (∃ s', l.dead = 0 ∧ hasG l.has name = true ∧ dropL l sa name = (⟨l.at_, l.life, delG l.has name, l.dead⟩, s', 0) ∧ s'.sure = sa.sure ∧ s'.loose = sa.loose ++ recB (3, name, [])) := by
  unfold dropL
  split
  · rename_i hd; exact .inl ⟨l.dead, sa, l.dead, rfl, hd, rfl, rfl, id⟩
  · rename_i hd
    split
    · exact .inl ⟨l.dead, sa, 6, rfl, by decide, rfl, rfl, id⟩
    · rename_i hh
      rcases append_cases sa (recF 3 name []) with ⟨he, h1, h2⟩ | ⟨he, h1, h2⟩
      · rw [if_pos he]
        refine .inl ⟨_, _, _, rfl, he, h1, h2, fun _ => ?_⟩
        rw [if_pos he]; exact he
      · rw [if_neg (fun h => h he)]
        exact .inr ⟨_, Decidable.not_not.1 hd, Decidable.not_not.1 hh, rfl, h1, h2⟩
theorem drop_calm {l : Lb} {sa : Slab} {name : Bytes} (hd : l.dead = 0) (hc : calm sa) (hs : sizeS sa + (name.length + 7) ≤ 262144) : ((dropL l sa name).2.2 = 0 ↔ hasG l.has name = true) ∧ calm (dropL l sa name).2.1 ∧ (hasG l.has name = false → dropL l sa name = (l, sa, 6)) := by
  have h := append_calm (p := recF 3 name []) hc (by rw [recF_len]; simp only [List.length_nil]; omega)
  unfold dropL
  rw [if_neg (fun h => h hd)]
  cases hh : hasG l.has name with
  | false => exact ⟨⟨fun h => by simp at h, fun h => by simp at h⟩, hc, fun _ => rfl⟩
  | true =>
    rw [if_neg (fun h => h rfl), if_neg (fun h2 => h2 h.1)]
    exact ⟨⟨fun _ => rfl, fun _ => rfl⟩, h.2, fun h => by cases h⟩
theorem lsync_cases (l : Lb) (sa : Slab) :
    (∃ d s' e, syncL l sa = (⟨l.at_, l.life, l.has, d⟩, s', e) ∧ e ≠ 0 ∧ s'.sure = sa.sure ∧ s'.loose = sa.loose ∧ (l.dead ≠ 0 → d ≠ 0)) ∨
    (∃ s', l.dead = 0 ∧ syncL l sa = (l, s', 0) ∧ s'.sure = sa.sure ++ sa.loose ∧ s'.loose = []) := by
  unfold syncL
  split
  · rename_i hd; exact .inl ⟨l.dead, sa, l.dead, rfl, hd, rfl, rfl, id⟩
  · rename_i hd
    rcases sync_cases sa with ⟨he, h1, h2⟩ | ⟨he, h1, h2⟩
    · refine .inl ⟨_, _, _, rfl, he, h1, h2, fun _ => ?_⟩
      rw [if_pos he]; exact he
    · rw [he, failL_zero]
      exact .inr ⟨_, Decidable.not_not.1 hd, rfl, h1, h2⟩
theorem lsync_calm {l : Lb} {sa : Slab} (hd : l.dead = 0) (hc : calm sa) : (syncL l sa).2.2 = 0 ∧ calm (syncL l sa).2.1 := by
  have h := sync_calm hc
  unfold syncL
  rw [if_neg (fun h => h hd)]
  exact h
/-- Compact, as it may go: whole, or at which step it ended. -/
theorem compact_cases (l : Lb) (so : Slab) :
    (∃ d s' e, compactL l so = (⟨l.at_, l.life, l.has, d⟩, s', e) ∧ e ≠ 0 ∧ (l.dead ≠ 0 → d ≠ 0) ∧ ((s'.sure = so.sure ∧ s'.loose = so.loose) ∨ (d ≠ 0 ∧ s'.sure = [] ∧ s'.loose = []) ∨ (d ≠ 0 ∧ s'.sure = [] ∧ s'.loose = compactB l))) ∨
    (∃ s', l.dead = 0 ∧ compactL l so = (⟨1 - l.at_, l.life + 1, l.has, l.dead⟩, s', 0) ∧ s'.sure = compactB l ∧ s'.loose = [] ∧ l.life ≠ 4294967295) := by
  have fl : ∀ e, e ≠ 0 → failL l e = ⟨l.at_, l.life, l.has, e⟩ := fun e he => by unfold failL; rw [if_pos he]
  unfold compactL
  split
  · rename_i hd; exact .inl ⟨l.dead, so, l.dead, rfl, hd, id, .inl ⟨rfl, rfl⟩⟩
  · rename_i hd
    split
    · exact .inl ⟨l.dead, so, 8, rfl, by decide, id, .inl ⟨rfl, rfl⟩⟩
    · rename_i hl
      rcases erase_cases so with ⟨he, h1, h2⟩ | ⟨he, h1, h2⟩
      · rw [if_pos (show (opK (compactB l) 0 so).2 ≠ 0 from he), fl (opK (compactB l) 0 so).2 he]
        exact .inl ⟨_, _, _, rfl, he, fun _ => he, .inl ⟨h1, h2⟩⟩
      · rw [if_neg (show ¬ (opK (compactB l) 0 so).2 ≠ 0 from fun h => h he)]
        rcases append_cases (eraseS so).1 (compactB l) with ⟨ge, g1, g2⟩ | ⟨ge, g1, g2⟩
        · rw [if_pos (show (opK (compactB l) 1 (runK (compactB l) so 1)).2 ≠ 0 from ge), fl (opK (compactB l) 1 (runK (compactB l) so 1)).2 ge]
          exact .inl ⟨_, _, _, rfl, ge, fun _ => ge, .inr (.inl ⟨ge, g1.trans h1, g2.trans h2⟩)⟩
        · rw [if_neg (show ¬ (opK (compactB l) 1 (runK (compactB l) so 1)).2 ≠ 0 from fun h => h ge)]
          have e1 : (runK (compactB l) so 2).sure = [] := g1.trans h1
          have e2 : (runK (compactB l) so 2).loose = compactB l := by
            show (appendS (eraseS so).1 (compactB l)).1.loose = _
            rw [g2, h2, List.nil_append]
          rcases sync_cases (runK (compactB l) so 2) with ⟨fe, f1, f2⟩ | ⟨fe, f1, f2⟩
          · rw [if_pos (show (opK (compactB l) 2 (runK (compactB l) so 2)).2 ≠ 0 from fe), fl (opK (compactB l) 2 (runK (compactB l) so 2)).2 fe]
            exact .inl ⟨_, _, _, rfl, fe, fun _ => fe, .inr (.inr ⟨fe, f1.trans e1, f2.trans e2⟩)⟩
          · rw [if_neg (show ¬ (opK (compactB l) 2 (runK (compactB l) so 2)).2 ≠ 0 from fun h => h fe)]
            exact .inr ⟨_, Decidable.not_not.1 hd, rfl, by show (syncS (runK (compactB l) so 2)).1.sure = _; rw [f1, e1, e2, List.nil_append], f2, hl⟩
theorem compact_calm {l : Lb} {so : Slab} (hd : l.dead = 0) (hl : l.life ≠ 4294967295) (hc : calm so) (hs : (compactB l).length ≤ 262144) : (compactL l so).2.2 = 0 ∧ calm (compactL l so).2.1 := by
  have h1 := erase_calm hc
  have h1b : (eraseS so).1.sure = [] ∧ (eraseS so).1.loose = [] := by
    rcases erase_cases so with ⟨he, _⟩ | ⟨_, h2⟩
    · exact absurd h1.1 he
    · exact h2
  have h2 := append_calm (p := compactB l) h1.2 (by unfold sizeS; rw [h1b.1, h1b.2]; simpa using hs)
  have h3 := sync_calm h2.2
  have a0 : (opK (compactB l) 0 so).2 = 0 := h1.1
  have a1 : (opK (compactB l) 1 (runK (compactB l) so 1)).2 = 0 := h2.1
  have a2 : (opK (compactB l) 2 (runK (compactB l) so 2)).2 = 0 := h3.1
  unfold compactL
  rw [if_neg (fun h => h hd), if_neg hl, if_neg (fun h => h a0), if_neg (fun h => h a1), if_neg (fun h => h a2)]
  exact ⟨rfl, h3.2⟩
/-- Which slab Open takes. -/
theorem pick_ok (a : Int) (s0 s1 : Slab) (life : Int) (P Q : Kept → Prop) (hat : a = 0 ∨ a = 1) (hl : 0 ≤ life)
    (hact : ∃ H, tell (bytesS (if a = 0 then s0 else s1)) = ⟨life, true, H⟩ ∧ P H)
    (hoth : (tell (bytesS (if a = 0 then s1 else s0))).shut = true → (tell (bytesS (if a = 0 then s1 else s0))).life < life ∨ ((tell (bytesS (if a = 0 then s1 else s0))).life = life + 1 ∧ Q (tell (bytesS (if a = 0 then s1 else s0))).has)) :
    (∃ H, (pickK s0 s1 2).2 = ⟨a, life, H, 0⟩ ∧ P H) ∨ (∃ H, (pickK s0 s1 2).2 = ⟨1 - a, life + 1, H, 0⟩ ∧ Q H) := by
  obtain ⟨H, hH, hP⟩ := hact
  have e1 : pickK s0 s1 1 = pickStep 0 (false, ⟨1, 0, [], 0⟩) (tell (bytesS s0)) := rfl
  have e2 : pickK s0 s1 2 = pickStep 1 (pickK s0 s1 1) (tell (bytesS s1)) := rfl
  rcases hat with rfl | rfl
  · rw [if_pos rfl] at hH hoth
    rw [hH, pick_yes rfl (.inl rfl)] at e1
    rw [e2, e1]
    by_cases hs : (tell (bytesS s1)).shut = true
    · rcases hoth hs with h | ⟨h, hq⟩
      · rw [pick_no (fun h2 => by
          rcases h2.2 with h3 | h3
          · cases h3
          · have h3 : (tell (bytesS s1)).life > life := h3
            omega)]
        exact .inl ⟨H, rfl, hP⟩
      · rw [pick_yes hs (.inr (by show (tell (bytesS s1)).life > life; omega)), h]
        exact .inr ⟨_, rfl, hq⟩
    · rw [pick_no (fun h2 => hs h2.1)]
      exact .inl ⟨H, rfl, hP⟩
  · rw [if_neg (by decide)] at hH hoth
    rw [e2, hH]
    by_cases hs : (tell (bytesS s0)).shut = true
    · rw [pick_yes hs (.inl rfl)] at e1
      rcases hoth hs with h | ⟨h, hq⟩
      · rw [pick_yes rfl (.inr (by rw [e1]; show life > (tell (bytesS s0)).life; omega)), e1]
        exact .inl ⟨H, rfl, hP⟩
      · rw [pick_no (fun h2 => by
          rw [e1] at h2
          rcases h2.2 with h3 | h3
          · cases h3
          · have h3 : life > (tell (bytesS s0)).life := h3
            omega), e1, h]
        exact .inr ⟨_, rfl, hq⟩
    · rw [pick_no (fun h2 => hs h2.1)] at e1
      rw [pick_yes rfl (.inl (by rw [e1])), e1]
      exact .inl ⟨H, rfl, hP⟩

end Go.Proofs.Ytcbbogaanebefaa