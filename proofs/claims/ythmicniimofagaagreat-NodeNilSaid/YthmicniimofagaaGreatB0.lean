/-
  THE SHELF's CONTRACTS at this program's maps.Keys, slices.Sorted, slices.Sort: a map's names, sorted. Condition: the map is there.
-/
import Derived.Test.YthmicniimofagaaGreatFwO
import Derived.Shelf.SlIter.Nil
import Derived.Shelf.SortM.Plain
import Derived.Shelf.SortM.SortNone
namespace Go.Proofs.YthmicniimofagaaGreat
open Go.Shelf Go.RowKit Go.Maps Go.Sort Go.ChangeMaps Go.WideElems Go.ChangeShapes Go.WideShapes
open Fw
open Go.Proofs (encStr)
def itKeys_ren : Go.Shelf.Ren := ⟨fun | 7 => 130 | 10 => 192 | n => n, fun | 23 => 243 | 26 => 9 | 3 => 39 | 28 => 252 | 0 => 0 | 27 => 251 | 33 => 319 | 4 => 4 | n => n, fun | n => n⟩
theorem itKeys : Go.Proofs.SlLaysZ.n7 Tryz.prog itKeys_ren := {
  mixed := by kernel_rfl
  f7 := ⟨Tryz.f130.name, by decide, Tryz.func130.trans (congrArg some (by kernel_rfl))⟩
  f10 := ⟨Tryz.f192.name, by decide, Tryz.func192.trans (congrArg some (by kernel_rfl))⟩
  t0 := Tryz.underlying0
  a0 := Tryz.isAgg0
  z0 := Tryz.sizeOf0
  v0 := Tryz.zeroValue0
  t4 := Tryz.underlying4
  a4 := Tryz.isAgg4
  z4 := Tryz.sizeOf4
  v4 := Tryz.zeroValue4
  t23 := Tryz.underlying243
  a23 := Tryz.isAgg243
  z23 := Tryz.sizeOf243
  v23 := Tryz.zeroValue243
  t26 := Tryz.underlying9
  a26 := Tryz.isAgg9
  z26 := Tryz.sizeOf9
  v26 := Tryz.zeroValue9
  t27 := Tryz.underlying251
  a27 := Tryz.isAgg251
  z27 := Tryz.sizeOf251
  v27 := Tryz.zeroValue251
  t28 := Tryz.underlying252
  a28 := Tryz.isAgg252
  z28 := Tryz.sizeOf252
  v28 := Tryz.zeroValue252
  t33 := Tryz.underlying319
  a33 := Tryz.isAgg319
  z33 := Tryz.sizeOf319
  v33 := Tryz.zeroValue319 }
def itSorted_ren : Go.Shelf.Ren := ⟨fun | 6 => 129 | 8 => 190 | 9 => 191 | 11 => 227 | 13 => 145 | 12 => 228 | 23 => 206 | 24 => 207 | 14 => 254 | 15 => 255 | 16 => 256 | 17 => 257 | 18 => 258 | 19 => 259 | 20 => 260 | 21 => 261 | 22 => 262 | 25 => 272 | 26 => 237 | 27 => 238 | 28 => 273 | 29 => 274 | 30 => 275 | 31 => 277 | n => n, fun | 26 => 9 | 28 => 252 | 24 => 155 | 0 => 0 | 3 => 3 | 37 => 272 | 48 => 23 | 50 => 47 | 4 => 4 | 40 => 325 | 39 => 324 | 45 => 330 | 5 => 5 | 9 => 9 | 51 => 365 | 55 => 368 | 57 => 391 | 58 => 392 | 33 => 319 | n => n, fun | n => n⟩
theorem itSorted : Go.Proofs.SlLaysZ.n6 Tryz.prog itSorted_ren := {
  mixed := by kernel_rfl
  f6 := ⟨Tryz.f129.name, by decide, Tryz.func129.trans (congrArg some (by kernel_rfl))⟩
  f8 := ⟨Tryz.f190.name, by decide, Tryz.func190.trans (congrArg some (by kernel_rfl))⟩
  f11 := ⟨Tryz.f227.name, by decide, Tryz.func227.trans (congrArg some (by kernel_rfl))⟩
  t0 := Tryz.underlying0
  a0 := Tryz.isAgg0
  z0 := Tryz.sizeOf0
  v0 := Tryz.zeroValue0
  t24 := Tryz.underlying155
  a24 := Tryz.isAgg155
  z24 := Tryz.sizeOf155
  v24 := Tryz.zeroValue155
  t26 := Tryz.underlying9
  a26 := Tryz.isAgg9
  z26 := Tryz.sizeOf9
  v26 := Tryz.zeroValue9
  t28 := Tryz.underlying252
  a28 := Tryz.isAgg252
  z28 := Tryz.sizeOf252
  v28 := Tryz.zeroValue252
  i26 := by kernel_rfl }
def itSort_ren : Go.Shelf.Ren := ⟨fun | 6 => 191 | 8 => 145 | 9 => 228 | 19 => 206 | 20 => 207 | 21 => 254 | 22 => 255 | 23 => 256 | 24 => 257 | 25 => 258 | 26 => 259 | 27 => 260 | 28 => 261 | 29 => 262 | 36 => 272 | 31 => 237 | 32 => 238 | 37 => 273 | 38 => 274 | 39 => 275 | 41 => 277 | n => n, fun | 27 => 155 | 29 => 9 | 3 => 3 | 32 => 272 | 26 => 155 | 0 => 0 | 44 => 23 | 46 => 47 | 4 => 4 | 36 => 325 | 35 => 324 | 41 => 330 | 5 => 5 | 9 => 9 | 53 => 365 | 57 => 368 | 63 => 391 | 64 => 392 | n => n, fun | n => n⟩
theorem itSort : Go.Proofs.SlLaysM.n6 Tryz.prog itSort_ren := {
  mixed := by kernel_rfl
  f6 := ⟨Tryz.f191.name, by decide, Tryz.func191.trans (congrArg some (by kernel_rfl))⟩
  f8 := Tryz.func145.trans (congrArg some (by kernel_rfl))
  f9 := ⟨Tryz.f228.name, by decide, Tryz.func228.trans (congrArg some (by kernel_rfl))⟩
  f19 := Tryz.func206.trans (congrArg some (by kernel_rfl))
  f20 := Tryz.func207.trans (congrArg some (by kernel_rfl))
  f21 := ⟨Tryz.f254.name, by decide, Tryz.func254.trans (congrArg some (by kernel_rfl))⟩
  f22 := ⟨Tryz.f255.name, by decide, Tryz.func255.trans (congrArg some (by kernel_rfl))⟩
  f23 := ⟨Tryz.f256.name, by decide, Tryz.func256.trans (congrArg some (by kernel_rfl))⟩
  f24 := ⟨Tryz.f257.name, by decide, Tryz.func257.trans (congrArg some (by kernel_rfl))⟩
  f25 := ⟨Tryz.f258.name, by decide, Tryz.func258.trans (congrArg some (by kernel_rfl))⟩
  f26 := ⟨Tryz.f259.name, by decide, Tryz.func259.trans (congrArg some (by kernel_rfl))⟩
  f27 := ⟨Tryz.f260.name, by decide, Tryz.func260.trans (congrArg some (by kernel_rfl))⟩
  f28 := ⟨Tryz.f261.name, by decide, Tryz.func261.trans (congrArg some (by kernel_rfl))⟩
  f29 := ⟨Tryz.f262.name, by decide, Tryz.func262.trans (congrArg some (by kernel_rfl))⟩
  f31 := Tryz.func237.trans (congrArg some (by kernel_rfl))
  f32 := Tryz.func238.trans (congrArg some (by kernel_rfl))
  f36 := ⟨Tryz.f272.name, by decide, Tryz.func272.trans (congrArg some (by kernel_rfl))⟩
  f37 := ⟨Tryz.f273.name, by decide, Tryz.func273.trans (congrArg some (by kernel_rfl))⟩
  f38 := ⟨Tryz.f274.name, by decide, Tryz.func274.trans (congrArg some (by kernel_rfl))⟩
  f39 := ⟨Tryz.f275.name, by decide, Tryz.func275.trans (congrArg some (by kernel_rfl))⟩
  f41 := ⟨Tryz.f277.name, by decide, Tryz.func277.trans (congrArg some (by kernel_rfl))⟩
  t0 := Tryz.underlying0
  a0 := Tryz.isAgg0
  z0 := Tryz.sizeOf0
  v0 := Tryz.zeroValue0
  t3 := Tryz.underlying3
  a3 := Tryz.isAgg3
  z3 := Tryz.sizeOf3
  v3 := Tryz.zeroValue3
  t4 := Tryz.underlying4
  a4 := Tryz.isAgg4
  z4 := Tryz.sizeOf4
  v4 := Tryz.zeroValue4
  t5 := Tryz.underlying5
  a5 := Tryz.isAgg5
  z5 := Tryz.sizeOf5
  v5 := Tryz.zeroValue5
  t9 := Tryz.underlying9
  a9 := Tryz.isAgg9
  z9 := Tryz.sizeOf9
  v9 := Tryz.zeroValue9
  t26 := Tryz.underlying155
  a26 := Tryz.isAgg155
  z26 := Tryz.sizeOf155
  v26 := Tryz.zeroValue155
  t27 := Tryz.underlying155
  a27 := Tryz.isAgg155
  z27 := Tryz.sizeOf155
  v27 := Tryz.zeroValue155
  t29 := Tryz.underlying9
  a29 := Tryz.isAgg9
  z29 := Tryz.sizeOf9
  v29 := Tryz.zeroValue9
  t32 := Tryz.underlying272
  a32 := Tryz.isAgg272
  z32 := Tryz.sizeOf272
  v32 := Tryz.zeroValue272
  t35 := Tryz.underlying324
  a35 := Tryz.isAgg324
  z35 := Tryz.sizeOf324
  v35 := Tryz.zeroValue324
  t36 := Tryz.underlying325
  a36 := Tryz.isAgg325
  z36 := Tryz.sizeOf325
  v36 := Tryz.zeroValue325
  t41 := Tryz.underlying330
  a41 := Tryz.isAgg330
  z41 := Tryz.sizeOf330
  v41 := Tryz.zeroValue330
  t44 := Tryz.underlying23
  a44 := Tryz.isAgg23
  z44 := Tryz.sizeOf23
  v44 := Tryz.zeroValue23
  t46 := Tryz.underlying47
  a46 := Tryz.isAgg47
  z46 := Tryz.sizeOf47
  v46 := Tryz.zeroValue47
  t53 := Tryz.underlying365
  a53 := Tryz.isAgg365
  z53 := Tryz.sizeOf365
  v53 := Tryz.zeroValue365
  t57 := Tryz.underlying368
  a57 := Tryz.isAgg368
  z57 := Tryz.sizeOf368
  v57 := Tryz.zeroValue368
  t63 := Tryz.underlying391
  a63 := Tryz.isAgg391
  z63 := Tryz.sizeOf391
  v63 := Tryz.zeroValue391
  t64 := Tryz.underlying392
  a64 := Tryz.isAgg392
  z64 := Tryz.sizeOf392
  v64 := Tryz.zeroValue392 }
set_option maxRecDepth 100000
theorem itSorts (m : Nat) : AnyZ.SortsIn Tryz.prog itSorted_ren Fence.wide m :=
  ⟨fun blk off cap ss W hH hblk hsz => callsIn_wide.2 (AnyM.slices_Sort_string itSort blk off cap ss W hH hblk hsz),
   fun p cap W => callsIn_wide.2 (AnyM.slices_Sort_string_none itSort p cap W)⟩
theorem maxLen_big : 1000000 ≤ maxLen := by decide +kernel
def encN (x : Bytes) : List Value := [encStr x]
theorem encN_one : ∀ (x : Bytes), ∀ v ∈ encN x, v.oneCell' = true := by
  intro x v hv
  simp only [encN, List.mem_cons, List.not_mem_nil, or_false] at hv
  subst hv; rfl
/-- All names, rising. -/
def namesOf {γ : Type} (ms : List (Bytes × γ)) : List Bytes := (ms.map Prod.fst).mergeSort leB
theorem namesOf_perm {γ : Type} (ms : List (Bytes × γ)) : (namesOf ms).Perm (ms.map Prod.fst) := List.mergeSort_perm _ _
theorem namesOf_len {γ : Type} (ms : List (Bytes × γ)) : (namesOf ms).length = ms.length := by rw [(namesOf_perm ms).length_eq, List.length_map]
def rdAll (_ : Value) : Option (DataW Unit × List MemPlace) := some (.nil, [])
theorem own_map {γ : Type} {val : γ → Value} {es : Array MapEntry} {c bm : Nat} {ms : List (Bytes × γ)} {w : World} (hb : w.heap[bm]? = some (.map es c)) (ho : MapS es c val ms) (hsz : ms.length ≤ 1000000) (hlen : ∀ t ∈ ms, t.1.length ≤ 1000000) :
    ∃ D0 : DataW Unit, w.ownsMap Tryz.prog 9 rdAll bm ms.length D0 ∧ (strKeys D0).Perm (ms.map Prod.fst) ∧ Maps.size D0 = ms.length := by
  have hu : Tryz.prog.underlying 9 = some .string := Tryz.underlying9
  have hkey : ∀ e ∈ es.toList, ∃ t ∈ ms, e.key = encStr t.1 := by
    intro e he
    obtain ⟨j, hj⟩ := List.mem_iff_getElem?.1 he
    obtain ⟨t, ht, hk, _⟩ := ho.at hj
    exact ⟨t, List.mem_of_getElem? ht, hk⟩
  have hko : ∀ t ∈ ms, keyOf Tryz.prog 9 (encStr t.1) = some (.string t.1) := by
    intro t ht
    have := hlen t ht
    have h2 : (⟨t.1.toArray⟩ : ByteArray).size ≤ maxLen := by
      show t.1.toArray.size ≤ maxLen
      rw [List.size_toArray]
      have := maxLen_big
      omega
    unfold keyOf
    rw [hu]
    simp only [mapKey, hu]
    rw [if_pos h2]
  have hrd : ∀ e ∈ es.toList, ∃ t ∈ ms, e.key = encStr t.1 ∧ rd Tryz.prog 9 rdAll e = some (.string t.1, .nil) := by
    intro e he
    obtain ⟨t, ht, hk⟩ := hkey e he
    obtain ⟨ek, ev, eb⟩ := e
    simp only at hk
    subst hk
    exact ⟨t, ht, rfl, rd_mk (R := rdAll) (yv := (.nil, [])) (hko t ht) rfl⟩
  have F : Fit Tryz.prog 9 rdAll es c := by
    refine ⟨?_, ⟨ho.young, ho.apart, ?_⟩, fun e he => ?_⟩
    · rw [ho.size]; have := maxLen_big; omega
    · have h1 : es.toList.map (·.key) = (ms.map Prod.fst).map encStr := by
        have := congrArg (List.map Prod.fst) ho.eq
        rw [List.map_map, List.map_map] at this
        rw [List.map_map]
        exact this
      rw [h1]
      exact List.pairwise_map.2 (ho.nd.imp fun h he => h (encStr_inj' he))
    · obtain ⟨t, _, _, h⟩ := hrd e he
      exact ⟨_, h⟩
  have hmap : (es.toList.map (rg Tryz.prog 9 rdAll)).map (fun p => strOf p.1) = ms.map Prod.fst := by
    rw [List.map_map]
    have h1 : es.toList.map (fun e => (e.key, e.val)) = ms.map fun t => (encStr t.1, val t.2) := ho.eq
    apply List.ext_getElem
    · simpa using ho.len
    · intro i h2 h3
      simp only [List.getElem_map, Function.comp]
      have h4 : i < es.toList.length := by simpa using h2
      have h5 : i < ms.length := by simpa using h3
      obtain ⟨t, ht, hk, hr⟩ := hrd es.toList[i] (List.getElem_mem h4)
      rw [rg_of hr]
      have h6 := congrArg (fun l => l[i]?) h1
      simp only [List.getElem?_map, List.getElem?_eq_getElem h4, List.getElem?_eq_getElem h5, Option.map_some, Option.some.injEq, Prod.mk.injEq] at h6
      have := encStr_inj' (hk.symm.trans h6.1)
      exact this
  refine ⟨_, ⟨es, c, hb, F, by rw [ho.size]; exact Nat.le_refl _, rfl⟩, ?_, ?_⟩
  · show ((((es.toList.map (rg Tryz.prog 9 rdAll)).foldr DataW.insert []).map fun p => strOf p.1)).Perm _
    rw [← hmap]
    exact (sorted_perm _).map _
  · show ((es.toList.map (rg Tryz.prog 9 rdAll)).foldr DataW.insert []).length = _
    rw [(sorted_perm _).length_eq, List.length_map, ho.len]
theorem sorted_ca {γ : Type} {val : γ → Value} {es : Array MapEntry} {c bm bk : Nat} {ms : List (Bytes × γ)} (O : Out) (L : List Blk) (hk : (bk, Obj.cells #[.map (some bm)] 243 (0, 0)) ∈ L) (hm : (bm, Obj.map es c) ∈ L) (ho : MapS es c val ms)
    (hsz : ms.length ≤ 1000000) (hlen : ∀ t ∈ ms, t.1.length ≤ 1000000) :
    CA Tryz.prog 129 [.func (.func 192) #[] #[.pointer (some ⟨bk, 0, none⟩)]] O L fun v L' => ∃ B, OwnL 9 encN 1 v (namesOf ms) B ∧ L' = B ++ L := by
  intro w hh
  obtain ⟨D0, hown, hperm, hsize⟩ := own_map (w := w) (hh.all _ _ hm) ho hsz hlen
  have hbk := hh.all _ _ hk
  have hlt : bk < w.heap.size := (Array.getElem?_eq_some_iff.1 hbk).1
  have hseq : SeqGives Fence.wide 2 Tryz.prog 192 #[.pointer (some ⟨bk, 0, none⟩)] encStr (fun ss => ss.Perm (strKeys D0)) (Maps.size D0) w :=
    AnyZ.keys_gives (ρ := itKeys_ren) { itKeys with } Fence.wide _ trivial rfl (by omega) bk bm ms.length D0 w hlt (by unfold World.cell?; rw [hbk]; rfl) hown
  have hcall := AnyZ.sorted_in itSorted Fence.wide 5 trivial trivial trivial trivial rfl (by omega) (itSorts _) (enters_of Tryz.func191 (by kernel_rfl) rfl) 192 #[.pointer (some ⟨bk, 0, none⟩)] trivial (enters_of Tryz.func192 (by kernel_rfl) rfl)
    _ (Maps.size D0) (by rw [hsize]; have := maxLen_big; omega) (by rw [hsize]; omega) w hseq
  refine (callsIn_wide.1 hcall).mono fun e w' ⟨v, ss, he, hp, hrow, _, hb⟩ => ?_
  have hss : ss.mergeSort (fun x y => decide (x ≤ y)) = namesOf ms := mergeSort_of_perm (hp.trans hperm)
  rw [hss] at hrow
  have hlen2 : ss.length = (namesOf ms).length := by rw [namesOf_len, (hp.trans hperm).length_eq, List.length_map]
  have hall : ∀ b o, (b, o) ∈ L → w'.heap[b]? = some o ∧ b < w.heap.size := by
    intro b o hbo
    have h1 := hh.all b o hbo
    have h2 : b < w.heap.size := (Array.getElem?_eq_some_iff.1 h1).1
    exact ⟨by rw [hb.block b h2]; exact h1, h2⟩
  have hsame : outOf w' = O := by
    rw [← hh.same]
    unfold outOf
    rw [hb.os, hb.tape, hb.output]
  obtain ⟨hl, hr⟩ := hrow
  rw [Nat.mul_one, List.length_map] at hl
  rcases hr with ⟨rfl, h0⟩ | ⟨gb, cap, cur, rfl, hge, hgb, hn, hcap, hcs, htk⟩
  · refine ⟨_, L, he, ⟨[], ?_, rfl⟩, fun b o hbo => (hall b o hbo).1, hh.nd, hsame⟩
    have : namesOf ms = [] := List.eq_nil_of_length_eq_zero (by omega)
    rw [this]
    exact OwnL.nil
  · refine ⟨_, (gb, Obj.cells cur 9 (0, 0)) :: L, he, ⟨[_], ?_, rfl⟩, ?_, ?_, hsame⟩
    · have hfl : (namesOf ms).flatMap encN = (namesOf ms).map encStr := flat_one _ _
      have hcur : cur.toList = (namesOf ms).map encStr ++ cur.toList.drop (namesOf ms).length := by
        rw [← htk, Nat.mul_one, hlen2, List.take_append_drop]
      have hcur2 : cur = ((namesOf ms).flatMap encN ++ cur.toList.drop (namesOf ms).length).toArray := by
        rw [hfl, ← hcur]
      rw [hcur2, hlen2]
      refine OwnL.of (enc := encN) (k := 1) (fun _ => rfl) ?_ (by omega)
      rw [hfl, ← hcur, Array.length_toList]
      exact hcs
    · intro b o hbo
      rcases List.mem_cons.1 hbo with hbo | hbo
      · cases hbo; exact hgb
      · exact (hall b o hbo).1
    · rw [List.map_cons, List.nodup_cons]
      refine ⟨fun hmem => ?_, hh.nd⟩
      obtain ⟨⟨b, o⟩, hbo, hq⟩ := List.mem_map.1 hmem
      have := (hall b o hbo).2
      simp only at hq
      omega
end Go.Proofs.YthmicniimofagaaGreat