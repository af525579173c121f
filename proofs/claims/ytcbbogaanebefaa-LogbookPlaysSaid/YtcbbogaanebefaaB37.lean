/-
  THE PLAIN LAW of LogbookPlays: how great slabs and logbooks stay; THE WALKS of its calls over two slabs. Conditions: sizes.
-/
import Derived.Test.YtcbbogaanebefaaB36
namespace Go.Proofs.Ytcbbogaanebefaa
open Fw
open Go.Proofs (encStr)
set_option linter.unusedVariables false
set_option linter.unusedSimpArgs false
set_option maxRecDepth 100000
set_option maxHeartbeats 2000000

def roomS (s : Slab) : Prop := sizeS s ≤ 262144
theorem step_room {s : Slab} (h : roomS s) : roomS (stepS s).1 := by
  have h2 := stepS_same s
  unfold roomS sizeS at *
  rw [h2.1, h2.2]; exact h
theorem append_room {s : Slab} (p : Bytes) (h : roomS s) : roomS (appendS s p).1 := by
  have h2 := stepS_same s
  have h3 := step_room h
  unfold appendS
  split
  · exact h
  · split
    · exact h
    · split
      · exact h3
      · rename_i hf _
        unfold roomS sizeS at *
        simp only [List.length_append, h2.1, h2.2]
        omega
theorem sync_room {s : Slab} (h : roomS s) : roomS (syncS s).1 := by
  have h3 := step_room h
  unfold syncS
  split
  · exact h
  · split
    · exact h3
    · unfold roomS sizeS at *
      simp only [List.length_append, List.length_nil]
      omega
theorem erase_room {s : Slab} (h : roomS s) : roomS (eraseS s).1 := by
  have h3 := step_room h
  unfold eraseS
  split
  · exact h
  · split
    · exact h3
    · unfold roomS sizeS; simp
theorem fuse_room {s : Slab} (n : Int) (h : roomS s) : roomS (fuseS s n) := by
  unfold fuseS
  split <;> exact h
theorem crash_room {s : Slab} (k z : Int) (h : roomS s) : roomS (crashS s k z) := by
  have h1 := keepN_le k s.loose.length
  have h2 := keepN_le z (s.loose.length - keepN k s.loose.length)
  unfold roomS sizeS crashS at *
  simp only [List.length_append, List.length_take, List.length_replicate, List.length_nil]
  omega
theorem runK_room {s : Slab} (p : Bytes) (h : roomS s) : ∀ k, roomS (runK p s k)
  | 0 => h
  | 1 => erase_room h
  | 2 => append_room p (erase_room h)
  | k + 3 => sync_room (runK_room p h (k + 2))
theorem putL_room {l : Lb} {s : Slab} (n v : Bytes) (h : roomS s) : roomS (putL l s n v).2.1 := by
  have := append_room (recF 2 n v) h
  unfold putL
  split
  · exact h
  · split
    · exact h
    · split <;> exact this
theorem dropL_room {l : Lb} {s : Slab} (n : Bytes) (h : roomS s) : roomS (dropL l s n).2.1 := by
  have := append_room (recF 3 n []) h
  unfold dropL
  split
  · exact h
  · split
    · exact h
    · split <;> exact this
theorem syncL_room {l : Lb} {s : Slab} (h : roomS s) : roomS (syncL l s).2.1 := by
  have := sync_room h
  unfold syncL
  split
  · exact h
  · exact this
theorem compactL_room {l : Lb} {s : Slab} (h : roomS s) : roomS (compactL l s).2.1 := by
  have := runK_room (compactB l) h
  unfold compactL
  split
  · exact h
  · split
    · exact h
    · split
      · exact this 1
      · split
        · exact this 2
        · split
          · exact this 3
          · exact this 3
theorem act_room {f : Lb → Slab → Lb × Slab × Int} {l : Lb} {s0 s1 : Slab} (hf : ∀ s, roomS s → roomS (f l s).2.1) (h0 : roomS s0) (h1 : roomS s1) : roomS (act2 f l s0 s1).2.1 ∧ roomS (act2 f l s0 s1).2.2.1 := by
  unfold act2 setA actS
  by_cases hz : l.at_ = 0
  · simp only [hz, if_true]; exact ⟨hf _ h0, h1⟩
  · simp only [hz, if_false]; exact ⟨h0, hf _ h1⟩
theorem compact_room {l : Lb} {s0 s1 : Slab} (h0 : roomS s0) (h1 : roomS s1) : roomS (compact2 l s0 s1).2.1 ∧ roomS (compact2 l s0 s1).2.2.1 := by
  unfold compact2 setO othS
  by_cases hz : l.at_ = 0
  · simp only [hz, if_true]; exact ⟨h0, compactL_room h1⟩
  · simp only [hz, if_false]; exact ⟨compactL_room h0, h1⟩
theorem LbOk.up {l : Lb} {w w2 : Nat} (h : LbOk l w) (hw : w ≤ w2) : LbOk l w2 := ⟨h.at_, h.life, h.nd, h.small, Nat.le_trans h.weight hw⟩
theorem putL_ok {l : Lb} {s : Slab} {w : Nat} (n v : Bytes) (h : LbOk l w) : LbOk (putL l s n v).1 (w + 4358) := by
  rcases put_cases l s n v with ⟨d, s', e, he, _⟩ | ⟨s', _, hn, hv, he, _⟩
  · rw [he]; exact ⟨h.at_, h.life, h.nd, h.small, Nat.le_trans h.weight (by omega)⟩
  · rw [he]
    refine ⟨h.at_, h.life, putG_nd h.nd, ?_, ?_⟩
    · rintro ⟨k2, v2⟩ hm
      rcases mem_putG.1 hm with ⟨rfl, _⟩ | ⟨_, hm⟩
      · exact hn
      · exact h.small _ hm
    · have h1 := weigh_put l.has n v h.nd
      have h2 := h.weight
      show weigh (putG l.has n v) ≤ _
      omega
theorem dropL_ok {l : Lb} {s : Slab} {w : Nat} (n : Bytes) (h : LbOk l w) : LbOk (dropL l s n).1 w := by
  rcases drop_cases l s n (fun hh => by
    obtain ⟨t, ht, rfl⟩ := List.mem_map.1 (hasG_iff.1 hh)
    exact h.small t ht) with ⟨d, s', e, he, _⟩ | ⟨s', _, _, he, _⟩
  · rw [he]; exact ⟨h.at_, h.life, h.nd, h.small, h.weight⟩
  · rw [he]
    refine ⟨h.at_, h.life, delG_nd h.nd, ?_, Nat.le_trans (weigh_del l.has n) h.weight⟩
    rintro ⟨k2, v2⟩ hm
    exact h.small _ (mem_delG.1 hm).2
theorem syncL_ok {l : Lb} {s : Slab} {w : Nat} (h : LbOk l w) : LbOk (syncL l s).1 w := by
  rcases lsync_cases l s with ⟨d, s', e, he, _⟩ | ⟨s', _, he, _⟩
  · rw [he]; exact ⟨h.at_, h.life, h.nd, h.small, h.weight⟩
  · rw [he]; exact h
theorem compactL_ok {l : Lb} {s : Slab} {w : Nat} (h : LbOk l w) : LbOk (compactL l s).1 w := by
  rcases compact_cases l s with ⟨d, s', e, he, _⟩ | ⟨s', _, he, _, _, hl⟩
  · rw [he]; exact ⟨h.at_, h.life, h.nd, h.small, h.weight⟩
  · rw [he]
    have hli := h.life
    unfold isU32 at hli
    exact ⟨by rcases h.at_ with h | h; right; show 1 - l.at_ = 1; omega; left; show 1 - l.at_ = 0; omega, by show 0 ≤ l.life + 1 ∧ l.life + 1 ≤ 4294967295; omega, h.nd, h.small, h.weight⟩
theorem open_ok {s0 s1 : Slab} (h0 : roomS s0) (h1 : roomS s1) : LbOk (openS s0 s1).1 262144 ∧ roomS (openS s0 s1).2.1 ∧ roomS (openS s0 s1).2.2.1 := by
  have hp := pickK_ok s0 s1 262144 (by unfold roomS sizeS at h0; unfold bytesS; rw [List.length_append]; omega) (by unfold roomS sizeS at h1; unfold bytesS; rw [List.length_append]; omega) 2 (Nat.le_refl 2)
  unfold openS
  split
  · exact ⟨⟨.inr rfl, ⟨by show (0 : Int) ≤ 0; decide, by show (0 : Int) ≤ _; decide⟩, by simp, fun e he => (by cases he), by simp [weigh]⟩, h0, h1⟩
  · exact ⟨compactL_ok hp, compact_room h0 h1⟩

theorem weigh_count7 (h : List (Bytes × Bytes)) : 7 * h.length ≤ weigh h := by
  unfold weigh
  induction h with
  | nil => simp
  | cons t h ih => simp only [List.length_cons, List.map_cons, List.sum_cons]; omega
theorem act2_ok {f : Lb → Slab → Lb × Slab × Int} {l l2 : Lb} {s0 s1 s02 s12 : Slab} {e : Int} {w : Nat} (h : act2 f l s0 s1 = (l2, s02, s12, e)) (hf : ∀ s, LbOk (f l s).1 w) : LbOk l2 w := by
  have h2 : (f l (actS l s0 s1)).1 = l2 := congrArg Prod.fst h
  rw [← h2]
  exact hf _
theorem act2_room {f : Lb → Slab → Lb × Slab × Int} {l l2 : Lb} {s0 s1 s02 s12 : Slab} {e : Int} (h : act2 f l s0 s1 = (l2, s02, s12, e)) (hf : ∀ s, roomS s → roomS (f l s).2.1) (h0 : roomS s0) (h1 : roomS s1) : roomS s02 ∧ roomS s12 := by
  have := act_room hf h0 h1
  rw [h] at this
  exact this

/-! ### the document's calls, with what comes of them -/
section
variable (rl w0 w1 : Nat) {l : Lb} {s0 s1 : Slab} {R R0 R1 : List Blk} {l2 : Lb} {s02 s12 : Slab} {e : Int} (O : Out) (F : List Blk) (hl : RLbIn rl w0 w1 l R) (h0 : RSlabAt w0 s0 R0) (h1 : RSlabAt w1 s1 R1) (hz0 : sizeS s0 ≤ 300000) (hz1 : sizeS s1 ≤ 300000) (hnd : (l.has.map Prod.fst).Nodup) (hcnt : l.has.length ≤ 300000)
include hl h0 h1 hz0 hz1 hnd hcnt
theorem rput3_ca (name val : Bytes) (hres : act2 (fun l s => putL l s name val) l s0 s1 = (l2, s02, s12, e)) : CA Try.prog 24 [PT rl, encStr name, encStr val] O (cat [R, R0, R1] F) fun v L' => v = I e ∧ ∃ R2 R02 R12, L' = cat [R2, R02, R12] F ∧ RLbIn rl w0 w1 l2 R2 ∧ RSlabAt w0 s02 R02 ∧ RSlabAt w1 s12 R12 := by
  have h := rlift2 (fun l s => putL l s name val) rl w0 w1 l s0 s1 R R0 R1 O F hl h0 h1 (put_at _ _ _ _) fun ba bo Ka F' g1 g2 => rput_ca rl ba bo l (actS l s0 s1) R Ka name val O F' g1 g2 (actS_size hz0 hz1) hnd hcnt
  rw [hres] at h
  exact h
theorem rdrop3_ca (name : Bytes) (hn : name.length ≤ 100000) (hres : act2 (fun l s => dropL l s name) l s0 s1 = (l2, s02, s12, e)) : CA Try.prog 25 [PT rl, encStr name] O (cat [R, R0, R1] F) fun v L' => v = I e ∧ ∃ R2 R02 R12, L' = cat [R2, R02, R12] F ∧ RLbIn rl w0 w1 l2 R2 ∧ RSlabAt w0 s02 R02 ∧ RSlabAt w1 s12 R12 := by
  have h := rlift2 (fun l s => dropL l s name) rl w0 w1 l s0 s1 R R0 R1 O F hl h0 h1 (drop_at _ _ _) fun ba bo Ka F' g1 g2 => rdrop_ca rl ba bo l (actS l s0 s1) R Ka name O F' g1 g2 (actS_size hz0 hz1) hnd hcnt hn
  rw [hres] at h
  exact h
theorem rsync3_ca (hres : act2 syncL l s0 s1 = (l2, s02, s12, e)) : CA Try.prog 26 [PT rl] O (cat [R, R0, R1] F) fun v L' => v = I e ∧ ∃ R2 R02 R12, L' = cat [R2, R02, R12] F ∧ RLbIn rl w0 w1 l2 R2 ∧ RSlabAt w0 s02 R02 ∧ RSlabAt w1 s12 R12 := by
  have h := rlift2 syncL rl w0 w1 l s0 s1 R R0 R1 O F hl h0 h1 (sync_at _ _) fun ba bo Ka F' g1 g2 => rlbSync_ca rl ba bo l (actS l s0 s1) R Ka O F' g1 g2 (actS_size hz0 hz1) hnd hcnt
  rw [hres] at h
  exact h
end
theorem rcompact3_ca (rl w0 w1 : Nat) {l : Lb} {s0 s1 : Slab} {R R0 R1 : List Blk} {l2 : Lb} {s02 s12 : Slab} {e : Int} {w : Nat} (O : Out) (F : List Blk) (hl : RLbIn rl w0 w1 l R) (h0 : RSlabAt w0 s0 R0) (h1 : RSlabAt w1 s1 R1) (hz0 : sizeS s0 ≤ 300000) (hz1 : sizeS s1 ≤ 300000) (hcnt : l.has.length ≤ 300000) (hok : LbOk l w) (hw : w ≤ 500000) (hres : compact2 l s0 s1 = (l2, s02, s12, e)) : CA Try.prog 27 [PT rl] O (cat [R, R0, R1] F) fun v L' => v = I e ∧ ∃ R2 R02 R12, L' = cat [R2, R02, R12] F ∧ RLbIn rl w0 w1 l2 R2 ∧ RSlabAt w0 s02 R02 ∧ RSlabAt w1 s12 R12 := by
  have h := rcompact2_ca rl w0 w1 l s0 s1 R R0 R1 w O F hl h0 h1 hz0 hz1 hok hw hcnt
  rw [hres] at h
  exact h
theorem compactW_ca (bl b0 b1 : Nat) {l : Lb} {s0 s1 : Slab} {K K0 K1 : List Blk} {l2 : Lb} {s02 s12 : Slab} {e : Int} {w : Nat} (O : Out) (F : List Blk) (hl : LbIn bl b0 b1 l K) (h0 : SlabAt b0 s0 K0) (h1 : SlabAt b1 s1 K1) (hz0 : sizeS s0 ≤ 300000) (hz1 : sizeS s1 ≤ 300000) (hok : LbOk l w) (hw : w ≤ 500000) (hres : compact2 l s0 s1 = (l2, s02, s12, e)) : CA Try.prog 13 [PT bl] O (cat [K, K0, K1] F) fun v L' => v = I e ∧ ∃ K2 K02 K12, L' = cat [K2, K02, K12] F ∧ LbIn bl b0 b1 l2 K2 ∧ SlabAt b0 s02 K02 ∧ SlabAt b1 s12 K12 := by
  have h := compact2_ca bl b0 b1 l s0 s1 K K0 K1 w O F hl h0 h1 hz0 hz1 hok hw
  rw [hres] at h
  exact h

/-! ### one of two slabs, the document's beside it -/
def at0 (j : Nat) (f : Slab → Slab) (s : Slab) : Slab := if j = 0 then f s else s
def at1 (j : Nat) (f : Slab → Slab) (s : Slab) : Slab := if j = 1 then f s else s
theorem doesK {args : Nat → Nat → List Value} {fid : FuncId} (f : Slab → Slab) (b0 b1 w0 w1 : Nat) (s0 s1 : Slab) (K0 K1 R0 R1 : List Blk) (j : Nat) (hj : j < 2) (O : Out) (F : List Blk) (h0 : SlabAt b0 s0 K0) (h1 : SlabAt b1 s1 K1) (g0 : RSlabAt w0 s0 R0) (g1 : RSlabAt w1 s1 R1)
    (hca : ∀ b w s K R F', SlabAt b s K → RSlabAt w s R → (∀ q, q ∈ F → q ∈ F') → (s = s0 ∨ s = s1) → CA Try.prog fid (args b w) O (cat [K, R] F') fun v L' => ∃ K2 R2, L' = cat [K2, R2] F' ∧ SlabAt b (f s) K2 ∧ RSlabAt w (f s) R2) :
    CA Try.prog fid (args (bK b0 b1 j) (bK w0 w1 j)) O (cat [K0, K1, R0, R1] F) fun v L' => ∃ K02 K12 R02 R12, L' = cat [K02, K12, R02, R12] F ∧ SlabAt b0 (at0 j f s0) K02 ∧ SlabAt b1 (at1 j f s1) K12 ∧ RSlabAt w0 (at0 j f s0) R02 ∧ RSlabAt w1 (at1 j f s1) R12 := by
  have h01 : j = 0 ∨ j = 1 := by omega
  rcases h01 with rfl | rfl
  · refine ((hca b0 w0 s0 K0 R0 (cat [K1, R1] F) h0 g0 (fun q hq => mem_catF hq) (.inl rfl)).pre (fun w h => h.perm (cat_perm (ls' := [K0, R0, K1, R1]) (ls := [K0, K1, R0, R1]) (by repeat (first | exact PermM.nil | refine PermM.cons (by repeat (first | exact Ins.here | apply Ins.there)) ?_))))).post fun v L' ⟨K2, R2, h2, h3, h4⟩ => ?_
    subst h2
    exact ⟨cat [K2, K1, R2, R1] F, ⟨K2, K1, R2, R1, rfl, h3, h1, h4, g1⟩, cat_sub (ls' := [K2, K1, R2, R1]) (ls := [K2, R2, K1, R1]) (by repeat (first | exact SubM.nil | refine SubM.cons (by repeat (first | exact Ins.here | apply Ins.there)) ?_))⟩
  · refine ((hca b1 w1 s1 K1 R1 (cat [K0, R0] F) h1 g1 (fun q hq => mem_catF hq) (.inr rfl)).pre (fun w h => h.perm (cat_perm (ls' := [K1, R1, K0, R0]) (ls := [K0, K1, R0, R1]) (by repeat (first | exact PermM.nil | refine PermM.cons (by repeat (first | exact Ins.here | apply Ins.there)) ?_))))).post fun v L' ⟨K2, R2, h2, h3, h4⟩ => ?_
    subst h2
    exact ⟨cat [K0, K2, R0, R2] F, ⟨K0, K2, R0, R2, rfl, h0, h3, g0, h4⟩, cat_sub (ls' := [K0, K2, R0, R2]) (ls := [K2, R2, K0, R0]) (by repeat (first | exact SubM.nil | refine SubM.cons (by repeat (first | exact Ins.here | apply Ins.there)) ?_))⟩
theorem at_room {f : Slab → Slab} {j : Nat} {s0 s1 : Slab} (hf : ∀ s, roomS s → roomS (f s)) (h0 : roomS s0) (h1 : roomS s1) : roomS (at0 j f s0) ∧ roomS (at1 j f s1) := by
  unfold at0 at1
  refine ⟨?_, ?_⟩ <;> split <;> first | exact hf _ ‹_› | assumption
def cj0 (op : OpT) (s : Slab) (j : Nat) : Slab := if 0 < j then crashS s op.k0 op.z0 else s
def cj1 (op : OpT) (s : Slab) (j : Nat) : Slab := if 1 < j then crashS s op.k1 op.z1 else s
def kq (op : OpT) (j : Nat) : Int := if j = 0 then op.k0 else op.k1
def zq (op : OpT) (j : Nat) : Int := if j = 0 then op.z0 else op.z1
theorem cj_step (op : OpT) (s0 s1 : Slab) (j : Nat) (hj : j < 2) : at0 j (fun s => crashS s (kq op j) (zq op j)) (cj0 op s0 j) = cj0 op s0 (j + 1) ∧ at1 j (fun s => crashS s (kq op j) (zq op j)) (cj1 op s1 j) = cj1 op s1 (j + 1) := by
  have h01 : j = 0 ∨ j = 1 := by omega
  rcases h01 with rfl | rfl <;> exact ⟨rfl, rfl⟩
theorem cj_room {op : OpT} {s0 s1 : Slab} (h0 : roomS s0) (h1 : roomS s1) (j : Nat) : roomS (cj0 op s0 j) ∧ roomS (cj1 op s1 j) := by
  unfold cj0 cj1
  refine ⟨?_, ?_⟩ <;> split <;> first | exact crash_room _ _ ‹_› | assumption
theorem arr2_get (b0 b1 j : Nat) (hj : j < 2) : [PT b0, PT b1].toArray[0 + (j : Int).toNat * 1]? = some (PT (bK b0 b1 j)) := by
  have h01 : j = 0 ∨ j = 1 := by omega
  rcases h01 with rfl | rfl <;> rfl
theorem kq_get (op : OpT) (j : Nat) (hj : j < 2) : (encOp op).toArray[0 + 5 + (j : Int).toNat * 1]? = some (I (kq op j)) := by
  have h01 : j = 0 ∨ j = 1 := by omega
  rcases h01 with rfl | rfl <;> rfl
theorem zq_get (op : OpT) (j : Nat) (hj : j < 2) : (encOp op).toArray[0 + 7 + (j : Int).toNat * 1]? = some (I (zq op j)) := by
  have h01 : j = 0 ∨ j = 1 := by omega
  rcases h01 with rfl | rfl <;> rfl
/-- A logbook and the document's, or none of both. -/
def LbO (b0 b1 w0 w1 w : Nat) (lv mv : Value) (K R : List Blk) : Prop := (lv = .pointer none ∧ mv = .pointer none ∧ K = [] ∧ R = []) ∨ ∃ l bl rl, lv = PT bl ∧ mv = PT rl ∧ LbIn bl b0 b1 l K ∧ RLbIn rl w0 w1 l R ∧ LbOk l w
theorem LbO.up {b0 b1 w0 w1 w w' : Nat} {lv mv : Value} {K R : List Blk} (h : LbO b0 b1 w0 w1 w lv mv K R) (hw : w ≤ w') : LbO b0 b1 w0 w1 w' lv mv K R := by
  rcases h with h | ⟨l, bl, rl, h1, h2, h3, h4, h5⟩
  · exact .inl h
  · exact .inr ⟨l, bl, rl, h1, h2, h3, h4, h5.up hw⟩
end Go.Proofs.Ytcbbogaanebefaa