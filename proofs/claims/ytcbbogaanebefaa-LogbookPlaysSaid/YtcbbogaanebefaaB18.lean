/-
  THE PLAIN LAW of a logbook over two slabs: what the slab on which it is tells, whatever is torn off; what the other one tells; each call keeps that. Conditions: sizes.
-/
import Derived.Test.YtcbbogaanebefaaB17
namespace Go.Proofs.Ytcbbogaanebefaa
open Fw
set_option linter.unusedVariables false
set_option linter.unusedSimpArgs false

/-- What the slab tells on which it is. -/
structure ActOk (s : Slab) (life : Int) (P : Kept → Prop) (has : Kept) : Prop where
  ex : ∃ rs0 rs1, s.sure = beginB life ++ logB rs0 ∧ s.loose = logB rs1 ∧ (∀ r ∈ rs0 ++ rs1, tailOk r) ∧ (rs0.foldl tellT ⟨life, false, []⟩).shut = true ∧ SameG ((rs0 ++ rs1).foldl tellT ⟨life, false, []⟩).has has ∧
    ∀ j, j ≤ rs1.length → P ((rs0 ++ rs1.take j).foldl tellT ⟨life, false, []⟩).has
theorem ActOk.torn {s : Slab} {life : Int} {P : Kept → Prop} {has : Kept} (h : ActOk s life P has) (hl : isU32 life) (k z : Nat) :
    ∃ H, tell (s.sure ++ (s.loose.take k ++ List.replicate z 0)) = ⟨life, true, H⟩ ∧ P H ∧ (s.loose.length ≤ k → SameG H has) := by
  obtain ⟨rs0, rs1, h1, h2, h3, h4, h5, h6⟩ := h.ex
  obtain ⟨j, q, j1, j2, j3, j4, _⟩ := log_torn rs1 (fun r hr => (h3 r (List.mem_append_right _ hr)).1) k z
  have ht := tell_log hl (rs0 ++ rs1.take j) (fun r hr => h3 r (by
    rcases List.mem_append.1 hr with hr | hr
    · exact List.mem_append_left _ hr
    · exact List.mem_append_right _ (List.mem_of_mem_take hr))) q j3
  have hlife := fold_life (rs0 ++ rs1.take j) ⟨life, false, []⟩
  have hshut : ((rs0 ++ rs1.take j).foldl tellT ⟨life, false, []⟩).shut = true := by
    rw [List.foldl_append]
    exact fold_shut _ _ h4
  refine ⟨((rs0 ++ rs1.take j).foldl tellT ⟨life, false, []⟩).has, ?_, h6 j j1, fun hk => ?_⟩
  · rw [h1, h2, j2, List.append_assoc, ← List.append_assoc (logB rs0), ← logB_app, ht]
    generalize (rs0 ++ rs1.take j).foldl tellT ⟨life, false, []⟩ = t at hlife hshut
    obtain ⟨a, b, c⟩ := t
    simp only at hlife hshut
    rw [hlife, hshut]
  · rw [h2] at hk
    rw [j4 hk, List.take_length]
    exact h5
theorem ActOk.all {s : Slab} {life : Int} {P : Kept → Prop} {has : Kept} (h : ActOk s life P has) (hl : isU32 life) : ∃ H, tell (bytesS s) = ⟨life, true, H⟩ ∧ P H ∧ SameG H has := by
  obtain ⟨H, h1, h2, h3⟩ := h.torn hl s.loose.length 0
  refine ⟨H, ?_, h2, h3 (Nat.le_refl _)⟩
  rw [← h1]
  simp [bytesS]
theorem ActOk.mono {s : Slab} {life : Int} {P P' : Kept → Prop} {has : Kept} (h : ActOk s life P has) (hp : ∀ H, P H → P' H) : ActOk s life P' has := by
  obtain ⟨rs0, rs1, h1, h2, h3, h4, h5, h6⟩ := h.ex
  exact ⟨rs0, rs1, h1, h2, h3, h4, h5, fun j hj => hp _ (h6 j hj)⟩
theorem ActOk.bytes {s s' : Slab} {life : Int} {P : Kept → Prop} {has : Kept} (h : ActOk s life P has) (h1 : s'.sure = s.sure) (h2 : s'.loose = s.loose) : ActOk s' life P has := by
  obtain ⟨rs0, rs1, g1, g2, h3, h4, h5, h6⟩ := h.ex
  exact ⟨rs0, rs1, by rw [h1, g1], by rw [h2, g2], h3, h4, h5, h6⟩
/-- One record more. -/
theorem ActOk.push {s s' : Slab} {life : Int} {P P' : Kept → Prop} {has has' : Kept} (h : ActOk s life P has) (r : Rec) (hr : tailOk r) (h1 : s'.sure = s.sure) (h2 : s'.loose = s.loose ++ recB r) (hp : ∀ H, P H → P' H)
    (hsame : ∀ t : Tale, SameG t.has has → SameG (tellT t r).has has' ∧ P' (tellT t r).has) : ActOk s' life P' has' := by
  obtain ⟨rs0, rs1, g1, g2, h3, h4, h5, h6⟩ := h.ex
  have hlast := hsame _ h5
  have e : (rs0 ++ (rs1 ++ [r])).foldl tellT ⟨life, false, []⟩ = tellT ((rs0 ++ rs1).foldl tellT ⟨life, false, []⟩) r := by
    rw [← List.append_assoc, List.foldl_append (l' := [r])]; rfl
  refine ⟨rs0, rs1 ++ [r], by rw [h1, g1], by rw [h2, g2, logB_app]; simp [logB], fun x hx => ?_, h4, by rw [e]; exact hlast.1, fun j hj => ?_⟩
  · rw [← List.append_assoc] at hx
    rcases List.mem_append.1 hx with hx | hx
    · exact h3 x hx
    · obtain rfl : x = r := by simpa using hx
      exact hr
  · rw [List.length_append, List.length_singleton] at hj
    rcases Nat.lt_or_ge rs1.length j with h7 | h7
    · have : j = rs1.length + 1 := by omega
      rw [List.take_of_length_le (by simp; omega), e]
      exact hlast.2
    · rw [List.take_append_of_le_length h7]
      exact hp _ (h6 j h7)
/-- All lasts. -/
theorem ActOk.sync {s s' : Slab} {life : Int} {P P' : Kept → Prop} {has : Kept} (h : ActOk s life P has) (h1 : s'.sure = s.sure ++ s.loose) (h2 : s'.loose = []) (hp : ∀ H, SameG H has → P' H) : ActOk s' life P' has := by
  obtain ⟨rs0, rs1, g1, g2, h3, h4, h5, h6⟩ := h.ex
  refine ⟨rs0 ++ rs1, [], by rw [h1, g1, g2, List.append_assoc, ← logB_app], by rw [h2]; rfl, by rwa [List.append_nil], by rw [List.foldl_append]; exact fold_shut _ _ h4, by rwa [List.append_nil], fun j hj => ?_⟩
  rw [List.take_nil, List.append_nil]
  exact hp _ h5
theorem ActOk.fresh {s : Slab} {l : Lb} {P : Kept → Prop} (hk : KeptOk l.has) (h1 : s.sure = compactB l) (h2 : s.loose = []) (hp : ∀ H, SameG H l.has → P H) : ActOk s (l.life + 1) P l.has := by
  obtain ⟨H, e, hs⟩ := compactR_tale l.has (l.life + 1)
  refine ⟨compactR l.has, [], by rw [h1, compactB_log], by rw [h2]; rfl, by rw [List.append_nil]; exact compactR_ok hk, by rw [e], by rw [List.append_nil, e]; exact hs, fun j hj => ?_⟩
  rw [List.take_nil, List.append_nil, e]
  exact hp _ hs

/-- What the other one tells. -/
def OthOk (s : Slab) (life : Int) (Q : Kept → Prop) : Prop := ∀ k z : Nat, (tell (s.sure ++ (s.loose.take k ++ List.replicate z 0))).shut = true →
  (tell (s.sure ++ (s.loose.take k ++ List.replicate z 0))).life < life ∨ ((tell (s.sure ++ (s.loose.take k ++ List.replicate z 0))).life = life + 1 ∧ Q (tell (s.sure ++ (s.loose.take k ++ List.replicate z 0))).has)
theorem OthOk.of_act {s : Slab} {life life' : Int} {P Q : Kept → Prop} {has : Kept} (h : ActOk s life P has) (hl : isU32 life) (hlt : life < life') : OthOk s life' Q := fun k z _ => by
  obtain ⟨H, h1, _, _⟩ := h.torn hl k z
  rw [h1]
  exact .inl hlt
theorem OthOk.empty {s : Slab} {life : Int} {Q : Kept → Prop} (h1 : s.sure = []) (h2 : s.loose = []) : OthOk s life Q := fun k z h => by
  rw [h1, h2, List.take_nil, List.nil_append, List.nil_append, tell_none (nextF_zeros z)] at h
  cases h
theorem OthOk.bytes {s s' : Slab} {life : Int} {Q : Kept → Prop} (h : OthOk s life Q) (h1 : s'.sure = s.sure) (h2 : s'.loose = s.loose) : OthOk s' life Q := fun k z => by
  rw [h1, h2]; exact h k z
theorem OthOk.mono {s : Slab} {life : Int} {Q Q' : Kept → Prop} (h : OthOk s life Q) (hq : ∀ H, Q H → Q' H) : OthOk s life Q' := fun k z hs => (h k z hs).imp id fun h => ⟨h.1, hq _ h.2⟩
theorem OthOk.all {s : Slab} {life : Int} {Q : Kept → Prop} (h : OthOk s life Q) (hs : (tell (bytesS s)).shut = true) : (tell (bytesS s)).life < life ∨ ((tell (bytesS s)).life = life + 1 ∧ Q (tell (bytesS s)).has) := by
  have := h s.loose.length 0
  simp only [List.take_length, List.replicate_zero, List.append_nil] at this
  exact this hs
/-- A new life that was laid, but not synced. -/
theorem OthOk.laid {s : Slab} {l : Lb} {Q : Kept → Prop} (hk : KeptOk l.has) (hl : isU32 (l.life + 1)) (h1 : s.sure = []) (h2 : s.loose = compactB l) (hq : ∀ H, SameG H l.has → Q H) : OthOk s l.life Q := fun k z hs => by
  rw [h1, h2, compactB_log, List.nil_append] at hs ⊢
  by_cases hb : k < (beginB (l.life + 1)).length
  · rw [List.take_append_of_le_length (by omega), tell_begin_torn hb] at hs
    cases hs
  · obtain ⟨j, q, j1, j2, j3, j4, j5⟩ := log_torn (compactR l.has) (fun r hr => (compactR_ok hk r hr).1) (k - (beginB (l.life + 1)).length) z
    have e : (beginB (l.life + 1) ++ logB (compactR l.has)).take k ++ List.replicate z 0 = beginB (l.life + 1) ++ (logB ((compactR l.has).take j) ++ q) := by
      rw [List.take_append, List.take_of_length_le (by omega), List.append_assoc, j2]
    rw [e, tell_log hl _ (fun r hr => compactR_ok hk r (List.mem_of_mem_take hr)) q j3] at hs ⊢
    rcases Nat.lt_or_ge j (compactR l.has).length with hj | hj
    · rw [compactR_part _ _ _ hj] at hs; cases hs
    · obtain ⟨H, e2, hH⟩ := compactR_tale l.has (l.life + 1)
      rw [List.take_of_length_le hj, e2]
      exact .inr ⟨rfl, hq _ hH⟩

end Go.Proofs.Ytcbbogaanebefaa