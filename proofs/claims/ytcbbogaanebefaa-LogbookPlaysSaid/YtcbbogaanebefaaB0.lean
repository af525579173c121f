/-
  THE SHELF's CONTRACTS at this program's maps.Keys, slices.Sorted, slices.Sort: a map's names, sorted. Condition: the map is there.
-/
import Derived.Test.YtcbbogaanebefaaFwO
import Derived.Shelf.SlIter.Nil
import Derived.Shelf.SortM.Plain
import Derived.Shelf.SortM.SortNone
namespace Go.Proofs.Ytcbbogaanebefaa
open Go.Shelf Go.RowKit Go.Maps Go.Sort Go.ChangeMaps Go.WideElems Go.ChangeShapes Go.WideShapes
open Fw
open Go.Proofs (encStr)
def itKeys_ren : Go.Shelf.Ren := ⟨fun | 7 => 40 | 10 => 68 | n => n, fun | 23 => 68 | 26 => 9 | 3 => 36 | 28 => 83 | 0 => 0 | 27 => 82 | 33 => 116 | 4 => 4 | n => n, fun | n => n⟩
theorem itKeys : Go.Proofs.SlLaysZ.n7 Try.prog itKeys_ren := {
  mixed := by kernel_rfl
  f7 := ⟨Try.f40.name, by decide, Try.func40.trans (congrArg some (by kernel_rfl))⟩
  f10 := ⟨Try.f68.name, by decide, Try.func68.trans (congrArg some (by kernel_rfl))⟩
  t0 := Try.underlying0
  a0 := Try.isAgg0
  z0 := Try.sizeOf0
  v0 := Try.zeroValue0
  t4 := Try.underlying4
  a4 := Try.isAgg4
  z4 := Try.sizeOf4
  v4 := Try.zeroValue4
  t23 := Try.underlying68
  a23 := Try.isAgg68
  z23 := Try.sizeOf68
  v23 := Try.zeroValue68
  t26 := Try.underlying9
  a26 := Try.isAgg9
  z26 := Try.sizeOf9
  v26 := Try.zeroValue9
  t27 := Try.underlying82
  a27 := Try.isAgg82
  z27 := Try.sizeOf82
  v27 := Try.zeroValue82
  t28 := Try.underlying83
  a28 := Try.isAgg83
  z28 := Try.sizeOf83
  v28 := Try.zeroValue83
  t33 := Try.underlying116
  a33 := Try.isAgg116
  z33 := Try.sizeOf116
  v33 := Try.zeroValue116 }
def itSorted_ren : Go.Shelf.Ren := ⟨fun | 6 => 39 | 8 => 66 | 9 => 67 | 11 => 71 | 13 => 73 | 12 => 72 | 23 => 84 | 24 => 85 | 14 => 75 | 15 => 76 | 16 => 77 | 17 => 78 | 18 => 79 | 19 => 80 | 20 => 81 | 21 => 82 | 22 => 83 | 25 => 88 | 26 => 89 | 27 => 90 | 28 => 91 | 29 => 92 | 30 => 93 | 31 => 94 | n => n, fun | 26 => 9 | 28 => 83 | 24 => 41 | 0 => 0 | 3 => 3 | 37 => 86 | 48 => 30 | 50 => 105 | 4 => 4 | 40 => 126 | 39 => 125 | 45 => 131 | 5 => 5 | 9 => 9 | 51 => 136 | 55 => 140 | 57 => 142 | 58 => 143 | 33 => 116 | n => n, fun | n => n⟩
theorem itSorted : Go.Proofs.SlLaysZ.n6 Try.prog itSorted_ren := {
  mixed := by kernel_rfl
  f6 := ⟨Try.f39.name, by decide, Try.func39.trans (congrArg some (by kernel_rfl))⟩
  f8 := ⟨Try.f66.name, by decide, Try.func66.trans (congrArg some (by kernel_rfl))⟩
  f11 := ⟨Try.f71.name, by decide, Try.func71.trans (congrArg some (by kernel_rfl))⟩
  t0 := Try.underlying0
  a0 := Try.isAgg0
  z0 := Try.sizeOf0
  v0 := Try.zeroValue0
  t24 := Try.underlying41
  a24 := Try.isAgg41
  z24 := Try.sizeOf41
  v24 := Try.zeroValue41
  t26 := Try.underlying9
  a26 := Try.isAgg9
  z26 := Try.sizeOf9
  v26 := Try.zeroValue9
  t28 := Try.underlying83
  a28 := Try.isAgg83
  z28 := Try.sizeOf83
  v28 := Try.zeroValue83
  i26 := by kernel_rfl }
def itSort_ren : Go.Shelf.Ren := ⟨fun | 6 => 67 | 8 => 73 | 9 => 72 | 19 => 84 | 20 => 85 | 21 => 75 | 22 => 76 | 23 => 77 | 24 => 78 | 25 => 79 | 26 => 80 | 27 => 81 | 28 => 82 | 29 => 83 | 36 => 88 | 31 => 89 | 32 => 90 | 37 => 91 | 38 => 92 | 39 => 93 | 41 => 94 | n => n, fun | 27 => 41 | 29 => 9 | 3 => 3 | 32 => 86 | 26 => 41 | 0 => 0 | 44 => 30 | 46 => 105 | 4 => 4 | 36 => 126 | 35 => 125 | 41 => 131 | 5 => 5 | 9 => 9 | 53 => 136 | 57 => 140 | 63 => 142 | 64 => 143 | n => n, fun | n => n⟩
theorem itSort : Go.Proofs.SlLaysM.n6 Try.prog itSort_ren := {
  mixed := by kernel_rfl
  f6 := ⟨Try.f67.name, by decide, Try.func67.trans (congrArg some (by kernel_rfl))⟩
  f8 := Try.func73.trans (congrArg some (by kernel_rfl))
  f9 := ⟨Try.f72.name, by decide, Try.func72.trans (congrArg some (by kernel_rfl))⟩
  f19 := Try.func84.trans (congrArg some (by kernel_rfl))
  f20 := Try.func85.trans (congrArg some (by kernel_rfl))
  f21 := ⟨Try.f75.name, by decide, Try.func75.trans (congrArg some (by kernel_rfl))⟩
  f22 := ⟨Try.f76.name, by decide, Try.func76.trans (congrArg some (by kernel_rfl))⟩
  f23 := ⟨Try.f77.name, by decide, Try.func77.trans (congrArg some (by kernel_rfl))⟩
  f24 := ⟨Try.f78.name, by decide, Try.func78.trans (congrArg some (by kernel_rfl))⟩
  f25 := ⟨Try.f79.name, by decide, Try.func79.trans (congrArg some (by kernel_rfl))⟩
  f26 := ⟨Try.f80.name, by decide, Try.func80.trans (congrArg some (by kernel_rfl))⟩
  f27 := ⟨Try.f81.name, by decide, Try.func81.trans (congrArg some (by kernel_rfl))⟩
  f28 := ⟨Try.f82.name, by decide, Try.func82.trans (congrArg some (by kernel_rfl))⟩
  f29 := ⟨Try.f83.name, by decide, Try.func83.trans (congrArg some (by kernel_rfl))⟩
  f31 := Try.func89.trans (congrArg some (by kernel_rfl))
  f32 := Try.func90.trans (congrArg some (by kernel_rfl))
  f36 := ⟨Try.f88.name, by decide, Try.func88.trans (congrArg some (by kernel_rfl))⟩
  f37 := ⟨Try.f91.name, by decide, Try.func91.trans (congrArg some (by kernel_rfl))⟩
  f38 := ⟨Try.f92.name, by decide, Try.func92.trans (congrArg some (by kernel_rfl))⟩
  f39 := ⟨Try.f93.name, by decide, Try.func93.trans (congrArg some (by kernel_rfl))⟩
  f41 := ⟨Try.f94.name, by decide, Try.func94.trans (congrArg some (by kernel_rfl))⟩
  t0 := Try.underlying0
  a0 := Try.isAgg0
  z0 := Try.sizeOf0
  v0 := Try.zeroValue0
  t3 := Try.underlying3
  a3 := Try.isAgg3
  z3 := Try.sizeOf3
  v3 := Try.zeroValue3
  t4 := Try.underlying4
  a4 := Try.isAgg4
  z4 := Try.sizeOf4
  v4 := Try.zeroValue4
  t5 := Try.underlying5
  a5 := Try.isAgg5
  z5 := Try.sizeOf5
  v5 := Try.zeroValue5
  t9 := Try.underlying9
  a9 := Try.isAgg9
  z9 := Try.sizeOf9
  v9 := Try.zeroValue9
  t26 := Try.underlying41
  a26 := Try.isAgg41
  z26 := Try.sizeOf41
  v26 := Try.zeroValue41
  t27 := Try.underlying41
  a27 := Try.isAgg41
  z27 := Try.sizeOf41
  v27 := Try.zeroValue41
  t29 := Try.underlying9
  a29 := Try.isAgg9
  z29 := Try.sizeOf9
  v29 := Try.zeroValue9
  t32 := Try.underlying86
  a32 := Try.isAgg86
  z32 := Try.sizeOf86
  v32 := Try.zeroValue86
  t35 := Try.underlying125
  a35 := Try.isAgg125
  z35 := Try.sizeOf125
  v35 := Try.zeroValue125
  t36 := Try.underlying126
  a36 := Try.isAgg126
  z36 := Try.sizeOf126
  v36 := Try.zeroValue126
  t41 := Try.underlying131
  a41 := Try.isAgg131
  z41 := Try.sizeOf131
  v41 := Try.zeroValue131
  t44 := Try.underlying30
  a44 := Try.isAgg30
  z44 := Try.sizeOf30
  v44 := Try.zeroValue30
  t46 := Try.underlying105
  a46 := Try.isAgg105
  z46 := Try.sizeOf105
  v46 := Try.zeroValue105
  t53 := Try.underlying136
  a53 := Try.isAgg136
  z53 := Try.sizeOf136
  v53 := Try.zeroValue136
  t57 := Try.underlying140
  a57 := Try.isAgg140
  z57 := Try.sizeOf140
  v57 := Try.zeroValue140
  t63 := Try.underlying142
  a63 := Try.isAgg142
  z63 := Try.sizeOf142
  v63 := Try.zeroValue142
  t64 := Try.underlying143
  a64 := Try.isAgg143
  z64 := Try.sizeOf143
  v64 := Try.zeroValue143 }
set_option maxRecDepth 100000
theorem itSorts (m : Nat) : AnyZ.SortsIn Try.prog itSorted_ren Fence.wide m :=
  ⟨fun blk off cap ss W hH hblk hsz => callsIn_wide.2 (AnyM.slices_Sort_string itSort blk off cap ss W hH hblk hsz),
   fun p cap W => callsIn_wide.2 (AnyM.slices_Sort_string_none itSort p cap W)⟩
theorem maxLen_big : 1000000 ≤ maxLen := by decide +kernel
def encN (x : Bytes) : List Value := [encStr x]
theorem encN_one : ∀ (x : Bytes), ∀ v ∈ encN x, v.oneCell' = true := by
  intro x v hv
  simp only [encN, List.mem_cons, List.not_mem_nil, or_false] at hv
  subst hv; rfl
/-- All names, rising. -/
def namesOf {γ : Type} (ms : List (Bytes × γ)) : List Bytes := (ms.map Prod.fst).mergeSort leB
theorem namesOf_perm {γ : Type} (ms : List (Bytes × γ)) : (namesOf ms).Perm (ms.map Prod.fst) := List.mergeSort_perm _ _
theorem namesOf_len {γ : Type} (ms : List (Bytes × γ)) : (namesOf ms).length = ms.length := by rw [(namesOf_perm ms).length_eq, List.length_map]
def rdAll (_ : Value) : Option (DataW Unit × List MemPlace) := some (.nil, [])
theorem own_map {γ : Type} {val : γ → Value} {es : Array MapEntry} {c bm : Nat} {ms : List (Bytes × γ)} {w : World} (hb : w.heap[bm]? = some (.map es c)) (ho : MapS es c val ms) (hsz : ms.length ≤ 1000000) (hlen : ∀ t ∈ ms, t.1.length ≤ 1000000) :
    ∃ D0 : DataW Unit, w.ownsMap Try.prog 9 rdAll bm ms.length D0 ∧ (strKeys D0).Perm (ms.map Prod.fst) ∧ Maps.size D0 = ms.length := by
  have hu : Try.prog.underlying 9 = some .string := Try.underlying9
  have hkey : ∀ e ∈ es.toList, ∃ t ∈ ms, e.key = encStr t.1 := by
    intro e he
    obtain ⟨j, hj⟩ := List.mem_iff_getElem?.1 he
    obtain ⟨t, ht, hk, _⟩ := ho.at hj
    exact ⟨t, List.mem_of_getElem? ht, hk⟩
  have hko : ∀ t ∈ ms, keyOf Try.prog 9 (encStr t.1) = some (.string t.1) := by
    intro t ht
    have := hlen t ht
    have h2 : (⟨t.1.toArray⟩ : ByteArray).size ≤ maxLen := by
      show t.1.toArray.size ≤ maxLen
      rw [List.size_toArray]
      have := maxLen_big
      omega
    unfold keyOf
    rw [hu]
    simp only [mapKey, hu]
    rw [if_pos h2]
  have hrd : ∀ e ∈ es.toList, ∃ t ∈ ms, e.key = encStr t.1 ∧ rd Try.prog 9 rdAll e = some (.string t.1, .nil) := by
    intro e he
    obtain ⟨t, ht, hk⟩ := hkey e he
    obtain ⟨ek, ev, eb⟩ := e
    simp only at hk
    subst hk
    exact ⟨t, ht, rfl, rd_mk (R := rdAll) (yv := (.nil, [])) (hko t ht) rfl⟩
  have F : Fit Try.prog 9 rdAll es c := by
    refine ⟨?_, ⟨ho.young, ho.apart, ?_⟩, fun e he => ?_⟩
    · rw [ho.size]; have := maxLen_big; omega
    · have h1 : es.toList.map (·.key) = (ms.map Prod.fst).map encStr := by
        have := congrArg (List.map Prod.fst) ho.eq
        rw [List.map_map, List.map_map] at this
        rw [List.map_map]
        exact this
      rw [h1]
      exact List.pairwise_map.2 (ho.nd.imp fun h he => h (encStr_inj' he))
    · obtain ⟨t, _, _, h⟩ := hrd e he
      exact ⟨_, h⟩
  have hmap : (es.toList.map (rg Try.prog 9 rdAll)).map (fun p => strOf p.1) = ms.map Prod.fst := by
    rw [List.map_map]
    have h1 : es.toList.map (fun e => (e.key, e.val)) = ms.map fun t => (encStr t.1, val t.2) := ho.eq
    apply List.ext_getElem
    · simpa using ho.len
    · intro i h2 h3
      simp only [List.getElem_map, Function.comp]
      have h4 : i < es.toList.length := by simpa using h2
      have h5 : i < ms.length := by simpa using h3
      obtain ⟨t, ht, hk, hr⟩ := hrd es.toList[i] (List.getElem_mem h4)
      rw [rg_of hr]
      have h6 := congrArg (fun l => l[i]?) h1
      simp only [List.getElem?_map, List.getElem?_eq_getElem h4, List.getElem?_eq_getElem h5, Option.map_some, Option.some.injEq, Prod.mk.injEq] at h6
      have := encStr_inj' (hk.symm.trans h6.1)
      exact this
  refine ⟨_, ⟨es, c, hb, F, by rw [ho.size]; exact Nat.le_refl _, rfl⟩, ?_, ?_⟩
  · show ((((es.toList.map (rg Try.prog 9 rdAll)).foldr DataW.insert []).map fun p => strOf p.1)).Perm _
    rw [← hmap]
    exact (sorted_perm _).map _
  · show ((es.toList.map (rg Try.prog 9 rdAll)).foldr DataW.insert []).length = _
    rw [(sorted_perm _).length_eq, List.length_map, ho.len]
theorem sorted_ca {γ : Type} {val : γ → Value} {es : Array MapEntry} {c bm bk : Nat} {ms : List (Bytes × γ)} (O : Out) (L : List Blk) (hk : (bk, Obj.cells #[.map (some bm)] 68 (0, 0)) ∈ L) (hm : (bm, Obj.map es c) ∈ L) (ho : MapS es c val ms)
    (hsz : ms.length ≤ 1000000) (hlen : ∀ t ∈ ms, t.1.length ≤ 1000000) :
    CA Try.prog 39 [.func (.func 68) #[] #[.pointer (some ⟨bk, 0, none⟩)]] O L fun v L' => ∃ B, OwnL 9 encN 1 v (namesOf ms) B ∧ L' = B ++ L := by
  intro w hh
  obtain ⟨D0, hown, hperm, hsize⟩ := own_map (w := w) (hh.all _ _ hm) ho hsz hlen
  have hbk := hh.all _ _ hk
  have hlt : bk < w.heap.size := (Array.getElem?_eq_some_iff.1 hbk).1
  have hseq : SeqGives Fence.wide 2 Try.prog 68 #[.pointer (some ⟨bk, 0, none⟩)] encStr (fun ss => ss.Perm (strKeys D0)) (Maps.size D0) w :=
    AnyZ.keys_gives (ρ := itKeys_ren) { itKeys with } Fence.wide _ trivial rfl (by omega) bk bm ms.length D0 w hlt (by unfold World.cell?; rw [hbk]; rfl) hown
  have hcall := AnyZ.sorted_in itSorted Fence.wide 5 trivial trivial trivial trivial rfl (by omega) (itSorts _) (enters_of Try.func67 (by kernel_rfl) rfl) 68 #[.pointer (some ⟨bk, 0, none⟩)] trivial (enters_of Try.func68 (by kernel_rfl) rfl)
    _ (Maps.size D0) (by rw [hsize]; have := maxLen_big; omega) (by rw [hsize]; omega) w hseq
  refine (callsIn_wide.1 hcall).mono fun e w' ⟨v, ss, he, hp, hrow, _, hb⟩ => ?_
  have hss : ss.mergeSort (fun x y => decide (x ≤ y)) = namesOf ms := mergeSort_of_perm (hp.trans hperm)
  rw [hss] at hrow
  have hlen2 : ss.length = (namesOf ms).length := by rw [namesOf_len, (hp.trans hperm).length_eq, List.length_map]
  have hall : ∀ b o, (b, o) ∈ L → w'.heap[b]? = some o ∧ b < w.heap.size := by
    intro b o hbo
    have h1 := hh.all b o hbo
    have h2 : b < w.heap.size := (Array.getElem?_eq_some_iff.1 h1).1
    exact ⟨by rw [hb.block b h2]; exact h1, h2⟩
  have hsame : outOf w' = O := by
    rw [← hh.same]
    unfold outOf
    rw [hb.os, hb.tape, hb.output]
  obtain ⟨hl, hr⟩ := hrow
  rw [Nat.mul_one, List.length_map] at hl
  rcases hr with ⟨rfl, h0⟩ | ⟨gb, cap, cur, rfl, hge, hgb, hn, hcap, hcs, htk⟩
  · refine ⟨_, L, he, ⟨[], ?_, rfl⟩, fun b o hbo => (hall b o hbo).1, hh.nd, hsame⟩
    have : namesOf ms = [] := List.eq_nil_of_length_eq_zero (by omega)
    rw [this]
    exact OwnL.nil
  · refine ⟨_, (gb, Obj.cells cur 9 (0, 0)) :: L, he, ⟨[_], ?_, rfl⟩, ?_, ?_, hsame⟩
    · have hfl : (namesOf ms).flatMap encN = (namesOf ms).map encStr := flat_one _ _
      have hcur : cur.toList = (namesOf ms).map encStr ++ cur.toList.drop (namesOf ms).length := by
        rw [← htk, Nat.mul_one, hlen2, List.take_append_drop]
      have hcur2 : cur = ((namesOf ms).flatMap encN ++ cur.toList.drop (namesOf ms).length).toArray := by
        rw [hfl, ← hcur]
      rw [hcur2, hlen2]
      refine OwnL.of (enc := encN) (k := 1) (fun _ => rfl) ?_ (by omega)
      rw [hfl, ← hcur, Array.length_toList]
      exact hcs
    · intro b o hbo
      rcases List.mem_cons.1 hbo with hbo | hbo
      · cases hbo; exact hgb
      · exact (hall b o hbo).1
    · rw [List.map_cons, List.nodup_cons]
      refine ⟨fun hmem => ?_, hh.nd⟩
      obtain ⟨⟨b, o⟩, hbo, hq⟩ := List.mem_map.1 hmem
      have := (hall b o hbo).2
      simp only at hq
      omega
end Go.Proofs.Ytcbbogaanebefaa