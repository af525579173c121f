/-
  THE PLAIN LAW of a slab's records: what was laid is told again, and what is torn off at the end is left behind. Conditions: a record's name has at most 255 bytes, its value at most 4096.
-/
import Derived.Test.YtcbbogaanebefaaB14
namespace Go.Proofs.Ytcbbogaanebefaa
open Fw
set_option linter.unusedVariables false
set_option linter.unusedSimpArgs false

theorem beN_app (a b : Bytes) : beN (a ++ b) = b.foldl (fun n b => n * 256 + b.toNat) (beN a) := by
  unfold beN; rw [List.foldl_append]
theorem beN_numF4 (n : Nat) (h : n < 4294967296) : beN (numF (n : Int) 4) = n := by
  simp only [numF, beN, byteAt, List.foldl_cons, List.foldl_nil, UInt8.toNat_ofNat', Int.toNat_natCast]
  omega
theorem zero_getD (z i : Nat) : (List.replicate z (0 : UInt8)).getD i 0 = 0 := by
  rw [List.getD_eq_getElem?_getD, List.getElem?_replicate]
  split <;> rfl
abbrev Rec := UInt8 × Bytes × Bytes
def recOk (r : Rec) : Prop := r.2.1.length ≤ 255 ∧ r.2.2.length ≤ 4096
def recB (r : Rec) : Bytes := recF r.1 r.2.1 r.2.2
def logB (rs : List Rec) : Bytes := rs.flatMap recB
theorem logB_cons (r : Rec) (rs : List Rec) : logB (r :: rs) = recB r ++ logB rs := rfl
theorem logB_app (a b : List Rec) : logB (a ++ b) = logB a ++ logB b := List.flatMap_append
theorem recB_len (r : Rec) : (recB r).length = r.2.1.length + r.2.2.length + 7 := recF_len _ _ _
theorem recB_head (r : Rec) (rest : Bytes) : recB r ++ rest = numF (2 + r.2.1.length + r.2.2.length : Nat) 4 ++ (r.1 :: UInt8.ofNat r.2.1.length :: (r.2.1 ++ (r.2.2 ++ (165 :: rest)))) := by
  unfold recB recF
  simp
theorem take4 (n : Int) (x : Bytes) : (numF n 4 ++ x).take 4 = numF n 4 := by
  rw [List.take_append_of_le_length (by rw [numF_len]; omega), List.take_of_length_le (by rw [numF_len]; omega)]
theorem drop4 (n : Int) (x : Bytes) (k : Nat) : (numF n 4 ++ x).drop (4 + k) = x.drop k := by
  rw [← List.drop_drop]
  rw [List.drop_left' (numF_len n 4)]
theorem getD4 (n : Int) (x : Bytes) (k : Nat) : (numF n 4 ++ x).getD (4 + k) 0 = x.getD k 0 := by
  rw [List.getD_eq_getElem?_getD, List.getD_eq_getElem?_getD, List.getElem?_append_right (by rw [numF_len]; omega), numF_len]
  congr 2
  omega
theorem nextF_rec (r : Rec) (h : recOk r) (rest : Bytes) : nextF (recB r ++ rest) = some (r.1, r.2.1, r.2.2, rest) := by
  obtain ⟨k, n, v⟩ := r
  obtain ⟨hn, hv⟩ := h
  simp only at hn hv
  rw [recB_head]
  simp only
  generalize hN : 2 + n.length + v.length = N
  have h5 : (UInt8.ofNat n.length).toNat = n.length := by rw [UInt8.toNat_ofNat']; omega
  have hb : beN (numF (N : Int) 4) = N := beN_numF4 N (by omega)
  have hlen : (numF (N : Int) 4 ++ (k :: UInt8.ofNat n.length :: (n ++ (v ++ (165 :: rest))))).length = N + 5 + rest.length := by
    simp only [List.length_append, numF_len, List.length_cons]; omega
  have g165 : (k :: UInt8.ofNat n.length :: (n ++ (v ++ (165 :: rest)))).getD N 0 = 165 := by
    rw [List.getD_eq_getElem?_getD]
    obtain ⟨m, rfl⟩ : ∃ m, N = m + 2 := ⟨N - 2, by omega⟩
    rw [List.getElem?_cons_succ, List.getElem?_cons_succ, List.getElem?_append_right (by omega), List.getElem?_append_right (by omega), show m - n.length - v.length = 0 from by omega]
    rfl
  unfold nextF
  rw [if_neg (by rw [hlen]; omega)]
  rw [take4, hb, getD4, g165]
  rw [if_neg (by rw [hlen]; rintro (h | h | h); omega; omega; exact h rfl)]
  rw [show (5 : Nat) = 4 + 1 from rfl, getD4]
  rw [show (k :: UInt8.ofNat n.length :: (n ++ (v ++ (165 :: rest)))).getD 1 0 = UInt8.ofNat n.length from rfl, h5]
  rw [if_neg (by omega)]
  rw [show (6 : Nat) = 4 + 2 from rfl, drop4, Nat.add_assoc 4 2, drop4, Nat.add_assoc 4 1, drop4]
  rw [show (numF (N : Int) 4 ++ (k :: UInt8.ofNat n.length :: (n ++ (v ++ (165 :: rest))))).getD 4 0 = k from getD4 _ _ 0]
  have e1 : (k :: UInt8.ofNat n.length :: (n ++ (v ++ (165 :: rest)))).drop 2 = n ++ (v ++ (165 :: rest)) := rfl
  have e2 : (k :: UInt8.ofNat n.length :: (n ++ (v ++ (165 :: rest)))).drop (2 + n.length) = v ++ (165 :: rest) := by
    rw [← List.drop_drop, e1, List.drop_left]
  have e3 : (k :: UInt8.ofNat n.length :: (n ++ (v ++ (165 :: rest)))).drop (1 + N) = rest := by
    rw [show 1 + N = (2 + n.length) + (v.length + 1) from by omega, ← List.drop_drop, e2, ← List.drop_drop, List.drop_left]
    rfl
  rw [e1, e2, e3, List.take_left, List.take_left' (by omega)]
/-- A torn record is none. -/
theorem nextF_torn (r : Rec) (h : recOk r) (k z : Nat) (hk : k < (recB r).length) : nextF ((recB r).take k ++ List.replicate z 0) = none := by
  have hl := recB_len r
  have hz : ∀ i, k ≤ i → ((recB r).take k ++ List.replicate z 0).getD i 0 = 0 := by
    intro i hi
    have h1 : ((recB r).take k).length = k := by rw [List.length_take]; omega
    rw [List.getD_eq_getElem?_getD, List.getElem?_append_right (by omega), ← List.getD_eq_getElem?_getD, zero_getD]
  unfold nextF
  by_cases h4 : ((recB r).take k ++ List.replicate z 0).length < 4
  · rw [if_pos h4]
  · rw [if_neg h4, if_pos]
    refine .inr (.inr ?_)
    rw [hz]
    · decide
    · by_cases hk4 : 4 ≤ k
      · have e1 : ((recB r).take k ++ List.replicate z 0).take 4 = numF (2 + r.2.1.length + r.2.2.length : Nat) 4 := by
          rw [List.take_append_of_le_length (by rw [List.length_take]; omega), List.take_take, show min 4 k = 4 from by omega]
          have := recB_head r []
          rw [List.append_nil] at this
          rw [this, take4]
        rw [e1, beN_numF4 _ (by have h1 := h.1; have h2 := h.2; omega)]
        omega
      · omega
theorem nextF_zeros (z : Nat) : nextF (List.replicate z 0) = none := by
  unfold nextF
  split
  · rfl
  · rw [if_pos (.inr (.inr (by rw [zero_getD]; decide)))]
theorem log_torn : ∀ (rs : List Rec), (∀ r ∈ rs, recOk r) → ∀ (k z : Nat), ∃ j q, j ≤ rs.length ∧ (logB rs).take k ++ List.replicate z 0 = logB (rs.take j) ++ q ∧ nextF q = none ∧ ((logB rs).length ≤ k → j = rs.length) ∧ (k < (logB rs).length → j < rs.length)
  | [], _, k, z => ⟨0, List.replicate z 0, Nat.le_refl _, by simp [logB], nextF_zeros z, fun _ => rfl, fun h => by simp [logB] at h⟩
  | r :: rs, h, k, z => by
    rw [logB_cons]
    by_cases hk : k < (recB r).length
    · refine ⟨0, (recB r).take k ++ List.replicate z 0, Nat.zero_le _, ?_, nextF_torn r (h r List.mem_cons_self) k z hk, fun h2 => ?_, fun _ => by simp⟩
      · rw [List.take_append_of_le_length (by omega)]; simp [logB]
      · rw [List.length_append] at h2; omega
    · obtain ⟨j, q, h1, h2, h3, h4, h5⟩ := log_torn rs (fun r hr => h r (List.mem_cons_of_mem _ hr)) (k - (recB r).length) z
      refine ⟨j + 1, q, by simpa using h1, ?_, h3, fun h6 => ?_, fun h6 => ?_⟩
      · rw [List.take_append, List.take_of_length_le (by omega), List.append_assoc, h2, List.take_succ_cons, logB_cons, List.append_assoc]
      · rw [List.length_append] at h6; have := h4 (by omega); simp [this]
      · rw [List.length_append] at h6; have := h5 (by omega); simp; omega

def tellT (t : Tale) (r : Rec) : Tale :=
  if r.1 = 2 then ⟨t.life, t.shut, putG t.has r.2.1 r.2.2⟩ else if r.1 = 3 then ⟨t.life, t.shut, delG t.has r.2.1⟩ else ⟨t.life, true, t.has⟩
def tailOk (r : Rec) : Prop := recOk r ∧ (r.1 = 2 ∨ r.1 = 3 ∨ r.1 = 4)
theorem tellN_log : ∀ (rs : List Rec) (t : Tale) (q : Bytes) (f : Nat), (∀ r ∈ rs, tailOk r) → nextF q = none → (logB rs ++ q).length < f → tellN f false t (logB rs ++ q) = rs.foldl tellT t
  | [], t, q, f, _, hq, hf => by
    obtain ⟨f, rfl⟩ : ∃ f2, f = f2 + 1 := ⟨f - 1, by omega⟩
    exact tellN_none hq
  | r :: rs, t, q, f, h, hq, hf => by
    obtain ⟨f, rfl⟩ : ∃ f2, f = f2 + 1 := ⟨f - 1, by omega⟩
    have hr := h r List.mem_cons_self
    have ih := fun t => tellN_log rs t q f (fun r hr => h r (List.mem_cons_of_mem _ hr)) hq (by
      rw [logB_cons, List.length_append, List.length_append] at hf
      have := recB_len r
      rw [List.length_append]
      omega)
    rw [logB_cons, List.append_assoc, tellN_some (nextF_rec r hr.1 _), List.foldl_cons]
    obtain ⟨k, n, v⟩ := r
    rcases hr.2 with hk | hk | hk <;> simp only at hk <;> subst hk
    · exact ih _
    · exact ih _
    · exact ih _
def beginB (life : Int) : Bytes := recF 1 [] (numF life 4)
theorem beginB_rec (life : Int) : beginB life = recB (1, [], numF life 4) := rfl
theorem begin_ok (life : Int) : recOk (1, [], numF life 4) := ⟨by simp, by show (numF life 4).length ≤ _; rw [numF_len]; omega⟩
theorem tell_log {life : Int} (h : isU32 life) (rs : List Rec) (hrs : ∀ r ∈ rs, tailOk r) (q : Bytes) (hq : nextF q = none) : tell (beginB life ++ (logB rs ++ q)) = rs.foldl tellT ⟨life, false, []⟩ := by
  unfold tell
  rw [beginB_rec, tellN_some (nextF_rec _ (begin_ok life) _)]
  obtain ⟨m, rfl⟩ := Int.eq_ofNat_of_zero_le h.1
  have hm : m < 4294967296 := by have := h.2; omega
  have h1 : (((1 : UInt8).toNat : Int) = 1) := rfl
  have hl := recB_len (1, [], numF (m : Int) 4)
  rw [if_neg (by simp), if_pos h1, if_neg (by rw [numF_len]; decide), beN_numF4 m hm]
  refine tellN_log rs _ q _ hrs hq ?_
  generalize recB (1, [], numF (m : Int) 4) = B at hl
  generalize logB rs ++ q = Z
  rw [List.length_append]
  simp only at hl
  omega
theorem tell_begin_torn {life : Int} {k z : Nat} (hk : k < (beginB life).length) : tell ((beginB life).take k ++ List.replicate z 0) = ⟨0, false, []⟩ := by
  unfold tell
  exact tellN_none (nextF_torn _ (begin_ok life) k z hk)
theorem tell_none {q : Bytes} (h : nextF q = none) : tell q = ⟨0, false, []⟩ := tellN_none h

end Go.Proofs.Ytcbbogaanebefaa