/-
  SORTED KEYS of an empty map whose keys are of kind uint32: maps.Keys, slices.AppendSeq, Collect, Sort, Sorted. No condition.
-/
import Derived.Test.YthmicniimofagaaGreatFwO
import Derived.RangeFuncSeq
import Derived.RangeFuncLeaves
import Derived.RangeFuncRecord
import Derived.Laws.IdiomRangeMap
import Derived.WalkKit
import Derived.Shelf.SlIter.Nil
import Derived.TacticsInMore
namespace Go.Proofs.YthmicniimofagaaGreat
open Fw
open Go.RowKit
set_option linter.unusedVariables false
set_option linter.unusedSimpArgs false
set_option maxRecDepth 100000
set_option maxHeartbeats 1000000

theorem Fw.Has.put {w : World} {O : Out} {b : Nat} {o : Obj} {L : List Blk} (h : Has w O ((b, o) :: L)) (o' : Obj) : Has (w.putObj b o') O ((b, o') :: L) where
  all := by
    intro c q hq
    have hnd := h.nd
    rw [List.map_cons, List.nodup_cons] at hnd
    rcases List.mem_cons.1 hq with h1 | h1
    · cases h1
      exact World.putObj_heap_same (h.lt (List.Mem.head _))
    · have hne : c ≠ b := fun e => hnd.1 (List.mem_map.2 ⟨(c, q), h1, e⟩)
      rw [World.putObj_heap_other hne]
      exact h.all c q (List.Mem.tail _ h1)
  nd := h.nd
  same := h.same
theorem Fw.wpIn_range_none {P : Program} {n : Nat} {gop : Operand} {ps : Array Tmp} {assign body : Code} {Q : Exit → Act → World → Prop} {a : Act} {w : World} {O : Out} {L : List Blk} {g : Nat} {lb : List Value}
    (he : a.eval gop = .func (.func g) #[] lb.toArray) (eg : ∀ args w, (callFunc g args).run P w = .ok (.enter g args) w)
    (hit : ∀ (l : Nat) (L2 : List Blk), (∀ q, q ∈ L → q ∈ L2) → CA P g (.func (.yield l) #[] #[] :: lb) O L2 fun _ L' => L' = L2) (hh : Has w O L)
    (hQ : ∀ D w', Has w' O ((D, .deferred (some [])) :: L) → Q .normal { a with defers := { target := .collected D, args := #[] } :: a.defers } w') :
    (Code.rangeFunc gop ps assign body).wpIn Fence.wide (n + 1) P Q a w := by
  refine wpIn_rangeFunc ?_
  intro fn hfn
  obtain ⟨rec, hrec⟩ : ∃ rec : LoopState → Loop, rec = fun st => { state := st, pending := none, fn, tmps := a.tmps, params := ps, assign, body, defers := w.heap.size } := ⟨_, rfl⟩
  have h1 : Has ((w.alloc (.deferred (some []))).alloc (.loop (rec .ready))) O ((w.heap.size + 1, .loop (rec .ready)) :: (w.heap.size, .deferred (some [])) :: L) := by
    have h := (hh.alloc (.deferred (some []))).alloc (.loop (rec .ready))
    have hs : ({ w with heap := w.heap.push (.deferred (some [])) } : World).heap.size = w.heap.size + 1 := by simp
    rw [hs] at h
    exact h
  generalize hW1 : (w.alloc (.deferred (some []))).alloc (.loop (rec .ready)) = W1 at h1
  refine ⟨w.heap.size + 1, [{ target := .collected w.heap.size, args := #[] }], W1, { target := .fn (.func g) lb.toArray, args := #[.func (.yield (w.heap.size + 1)) #[] #[]] }, W1, g,
    #[.func (.yield (w.heap.size + 1)) #[] #[]] ++ lb.toArray, W1, ?_, ?_, fun _ _ => trivial, ?_, fun _ => by omega, ?_⟩
  · rw [← hW1, hrec]; exact run_enterLoop_outer _ _ _ _ _
  · simp only [resolve, rangeCall, he]
    simp [go_sem]
  · simp [invoke, go_sem, eg]
  · refine callsIn_wide.2 ?_
    have h2 := hit (w.heap.size + 1) _ (fun q hq => List.Mem.tail _ (List.Mem.tail _ hq)) W1 h1
    have hargs : (#[.func (.yield (w.heap.size + 1)) #[] #[]] ++ lb.toArray : Array Value) = (Value.func (.yield (w.heap.size + 1)) #[] #[] :: lb).toArray := by simp
    rw [hargs]
    refine h2.mono ?_
    rintro e W2 ⟨v, L', rfl, rfl, h3⟩
    refine ⟨none, W2.putObj (w.heap.size + 1) (.loop { rec .ready with state := .exhausted }), ?_, ?_⟩
    · have h4 := run_endLoop (P := P) (h3.all _ _ (List.Mem.head _)) (by rw [hrec]; intro h; cases h)
      rw [h4, hrec]
    · exact hQ w.heap.size _ ((h3.put _).sub (List.sublist_cons_self _ _))
theorem appendSeq_none {g : Nat} {lb : List Value} (O : Out) (L : List Blk) (eg : ∀ args w, (callFunc g args).run Tryz.prog w = .ok (.enter g args) w)
    (hit : ∀ (l : Nat) (L2 : List Blk), (∀ q, q ∈ L → q ∈ L2) → CA Tryz.prog g (.func (.yield l) #[] #[] :: lb) O L2 fun _ L' => L' = L2) :
    CA Tryz.prog 143 [.slice none 0 0, .func (.func g) #[] lb.toArray] O L fun v L' => v = .slice none 0 0 ∧ L' = L := by
  intro w hh
  have mixed : Tryz.prog.follows .mixedOrders = true := follows
  have a76 := Tryz.isAgg76
  have z76 := Tryz.sizeOf76
  have v76 := Tryz.zeroValue76
  refine (callsIn_wide (n := 5)).1 ?_
  refine callsIn_of_wp_marks Tryz.func143 rfl trivial ?_ rfl
  simp only [Tryz.ntmps143, List.size_toArray, List.length_cons, List.length_nil, Nat.reduceAdd, Nat.reduceSub, Array.replicate_succ, Array.replicate_zero, List.push_toArray, List.append_toArray, List.nil_append, List.cons_append]
  gi_wp2
  refine Fw.wpIn_range_none (g := g) (lb := lb) rfl eg (fun l L2 h2 => hit l L2 fun q hq => h2 q (List.Mem.tail _ hq)) (hh.alloc _) ?_
  intro D w2 h2
  rename_i K hK
  refine hK _ _ ?_
  have hv : w2.heap[w.heap.size]? = some (.cells #[.slice none 0 0] 76 (0, 0)) := h2.all _ _ (List.Mem.tail _ (List.Mem.head _))
  obtain ⟨hc, hf⟩ := cell_of_box_a hv
  gi_wp2
  refine ⟨by simp, .inl ⟨_, _, rfl, run_takeDeferred (h2.all _ _ (List.Mem.head _)), ?_⟩⟩
  exact ⟨_, results_tmp rfl _ _ _, _, L, rfl, ⟨rfl, rfl⟩, (h2.put _).sub ((List.sublist_cons_self _ _).trans (List.sublist_cons_self _ _))⟩
namespace Fw
variable {P : Program} {n : Nat} {E : Env} {O : Out} {L : List Blk} {dst : Option Tmp} {T ty : TypeId} {pos : String} {after : Array _root_.Go.Edge} {g : Option (Nat × Bool)} {x : Operand}
theorem ev_range {kt et : TypeId} {bm c : Nat} {es : Array MapEntry} [ht : TUn P T (.map kt et)] (h : ev E x = some (.map (some bm))) (hm : (bm, .map es c) ∈ L) :
    EV P ⟨dst, .range T x, ty, pos, after, g⟩ n E O L fun u L' => ∃ b, u = .pointer (some ⟨b, 0, none⟩) ∧ L' = (b, .mapIter (some bm) c #[] c) :: L := fun a w hf hh K Q hk => by
  have hrun := run_range_map (P := P) w T kt et bm es c ht.ok (hh.all _ _ hm)
  unfold Oper.wp
  have : (execOp a.eval ⟨dst, .range T x, ty, pos, after, g⟩).run P w = .ok (.value (.pointer (some ⟨w.heap.size, 0, none⟩))) (w.alloc (.mapIter (some bm) c #[] c)) := by
    simp [execOp, hf.ev h, hrun]
  rw [this]
  exact hk _ _ _ (hh.alloc _) ⟨_, rfl, rfl⟩
theorem ev_next0 {b bm c c1 c2 : Nat} {seen : Array Nat} (h : ev E x = some (.pointer (some ⟨b, 0, none⟩))) (hb : (b, .mapIter (some bm) c1 seen c2) ∈ L) (hm : (bm, .map #[] c) ∈ L) :
    EV P ⟨dst, .next x false, ty, pos, after, g⟩ n E O L fun u L' => u = .tuple #[.bool false] ∧ L' = L := fun a w hf hh K Q hk => by
  have h1 := hh.all _ _ hb
  have h2 := hh.all _ _ hm
  have hrun : (Instr.next (.pointer (some ⟨b, 0, none⟩)) false ty).run P w = .ok (.tuple #[.bool false]) w := by
    have hq : (Question.mapNext 1).forced = true := by decide
    simp [Instr.next, getObj, Sem.run, h1, h2, Result.andThen, hq]
  unfold Oper.wp
  have : (execOp a.eval ⟨dst, .next x false, ty, pos, after, g⟩).run P w = .ok (.value (.tuple #[.bool false])) w := by
    simp [execOp, hf.ev h, hrun]
  rw [this]
  exact hk _ _ _ hh ⟨rfl, rfl⟩
end Fw

theorem keysU_ca (bm : Nat) (O : Out) (L : List Blk) : CA Tryz.prog 34 [.map (some bm)] O L fun v L' => ∃ bk, v = .func (.func 78) #[] #[.pointer (some ⟨bk, 0, none⟩)] ∧ L' = (bk, .cells #[.map (some bm)] 107 (0, 0)) :: L := by
  refine ca_enter Tryz.func34 rfl rfl ?_
  rw [Tryz.ntmps34]
  simp only [envOf]
  refine cg_seq ?_
  refine cg_region ?_
  refine rg_e (.inl rfl) rfl rfl (by exact ev_box rfl (by first | exact CellsOf.agg | exact CellsOf.one rfl)) ?_
  rintro _ _ ⟨b1, rfl, rfl⟩
  refine rg_q (.inl rfl) rfl rfl (by exact QW.qr (qw_assign rfl)) ?_
  refine rg_nil ?_
  refine qg_then ?_
  refine cg_seq ?_
  refine cg_region ?_
  refine rg_q (.inl rfl) rfl rfl (by exact QW.qr (qw_makeFunc (.nil) (.cons rfl (.nil)))) ?_
  refine rg_q (.inl rfl) rfl rfl (by exact QW.qr (qw_assign rfl)) ?_
  refine rg_nil ?_
  refine qg_then ?_
  refine cg_ret ?_
  exact qg_end (.inl rfl) _ (.cons (.tmp rfl) (.nil)) _ (List.Sublist.refl _) ⟨b1, rfl, rfl⟩

theorem keysU1_ca (yv : Value) (bk bm c : Nat) (O : Out) (L : List Blk) (hk : (bk, .cells #[.map (some bm)] 107 (0, 0)) ∈ L) (hm : (bm, .map #[] c) ∈ L) :
    CA Tryz.prog 78 [yv, .pointer (some ⟨bk, 0, none⟩)] O L fun _ L' => L' = L := by
  refine ca_enter Tryz.func78 rfl rfl ?_
  rw [Tryz.ntmps78]
  simp only [envOf]
  refine cg_seq ?_
  refine cg_region ?_
  refine rg_q (.inl rfl) rfl rfl (by exact qr_load1 rfl hk rfl) ?_
  refine rg_e (.inl rfl) rfl rfl (by exact ev_range rfl hm) ?_
  rintro _ _ ⟨b5, rfl, rfl⟩
  refine rg_nil ?_
  refine qg_then ?_
  refine cg_block ?_
  refine cg_loop (fun E' L' m => E' = [(0, yv), (5, .pointer (some ⟨b5, 0, none⟩))] ∧ L' = (b5, .mapIter (some bm) c #[] c) :: L ∧ m = 0 + 1) _ _ _ ⟨rfl, rfl, rfl⟩ (by repeat (first | exact Sub.nil | refine Sub.cons rfl ?_ | refine Sub.cons (congrArg (fun z => some (Value.int IntKind.i64 z)) (by omega)) ?_)) (List.Perm.refl _) ?_
  rintro _ _ _ ⟨rfl, rfl, rfl⟩
  refine cg_seq ?_
  refine cg_region ?_
  refine rg_e (.inl rfl) rfl rfl (by exact ev_next0 rfl (List.Mem.head _) (List.Mem.tail _ hm)) ?_
  rintro _ _ ⟨rfl, rfl⟩
  refine rg_q (.inl rfl) rfl rfl (by exact QW.qr (qw_extract rfl rfl)) ?_
  refine rg_nil ?_
  refine qg_then ?_
  refine cg_seq ?_
  refine cg_false rfl ?_
  refine cg_exit ?_
  refine qg_then_exit ?_
  refine qg_then_exit ?_
  refine qg_block_here ?_
  exact qg_end (.inr rfl) _ (.nil) _ (List.sublist_cons_self _ _) rfl

theorem collectU_none {g : Nat} {lb : List Value} (O : Out) (L : List Blk) (eg : ∀ args w, (callFunc g args).run Tryz.prog w = .ok (.enter g args) w)
    (hit : ∀ (l : Nat) (L2 : List Blk), (∀ q, q ∈ L → q ∈ L2) → CA Tryz.prog g (.func (.yield l) #[] #[] :: lb) O L2 fun _ L' => L' = L2) :
    CA Tryz.prog 76 [.func (.func g) #[] lb.toArray] O L fun v L' => v = .slice none 0 0 ∧ L' = L := by
  refine ca_enter Tryz.func76 rfl rfl ?_
  rw [Tryz.ntmps76]
  simp only [envOf]
  refine cg_seq ?_
  refine cg_region ?_
  refine rg_q (.inl rfl) rfl rfl (by exact QW.qr (qw_assign rfl)) ?_
  refine rg_nil ?_
  refine qg_then ?_
  refine cg_seq ?_
  refine cg_region ?_
  refine rg_q (.inl rfl) rfl rfl (by exact QW.qr (qw_move rfl)) ?_
  refine rg_e (.inl rfl) rfl rfl (by exact ev_call0 rfl (.cons rfl (.cons rfl (.nil))) (appendSeq_none O L eg hit)) ?_
  rintro _ _ ⟨rfl, rfl⟩
  refine rg_q (.inl rfl) rfl rfl (by exact QW.qr (qw_assign rfl)) ?_
  refine rg_nil ?_
  refine qg_then ?_
  refine cg_ret ?_
  exact qg_end (.inl rfl) _ (.cons (.tmp rfl) (.nil)) _ (by repeat (first | exact List.Sublist.refl _ | exact List.nil_sublist _ | exact List.sublist_append_right _ _ | apply List.Sublist.cons_cons | apply List.Sublist.cons | refine List.Sublist.trans ?_ (List.sublist_append_right _ _))) ⟨rfl, rfl⟩

theorem len64_zero (O : Out) (L : List Blk) : CA Tryz.prog 207 [.int .u64 0] O L fun v L' => v = I 0 ∧ L' = L := by
  refine ca_enter Tryz.func207 rfl rfl ?_
  rw [Tryz.ntmps207]
  simp only [envOf]
  refine cg_seq ?_
  refine cg_region ?_
  refine rg_q (.inl rfl) rfl rfl (by exact QW.qr (qw_assign rfl)) ?_
  refine rg_nil ?_
  refine qg_then ?_
  refine cg_seq ?_
  refine cg_seq ?_
  refine cg_region ?_
  refine rg_q (.inl rfl) rfl rfl (by exact QW.qr (qw_move rfl)) ?_
  refine rg_q (.inl rfl) rfl rfl (by exact QW.qr (qw_geq_f rfl rfl (by decide))) ?_
  refine rg_nil ?_
  refine qg_then ?_
  refine cg_false rfl ?_
  refine cg_skip ?_
  refine qg_then ?_
  refine cg_seq ?_
  refine cg_seq ?_
  refine cg_region ?_
  refine rg_q (.inl rfl) rfl rfl (by exact QW.qr (qw_move rfl)) ?_
  refine rg_q (.inl rfl) rfl rfl (by exact QW.qr (qw_geq_f rfl rfl (by decide))) ?_
  refine rg_nil ?_
  refine qg_then ?_
  refine cg_false rfl ?_
  refine cg_skip ?_
  refine qg_then ?_
  refine cg_seq ?_
  refine cg_seq ?_
  refine cg_region ?_
  refine rg_q (.inl rfl) rfl rfl (by exact QW.qr (qw_move rfl)) ?_
  refine rg_q (.inl rfl) rfl rfl (by exact QW.qr (qw_geq_f rfl rfl (by decide))) ?_
  refine rg_nil ?_
  refine qg_then ?_
  refine cg_false rfl ?_
  refine cg_skip ?_
  refine qg_then ?_
  refine cg_seq ?_
  refine cg_region ?_
  refine rg_q (.inl rfl) rfl rfl (by exact QW.qr (qw_move rfl)) ?_
  refine rg_q (.inl rfl) rfl rfl (by exact QW.qr (qw_move rfl)) ?_
  refine rg_q (.inl rfl) rfl rfl (by exact QW.qr (qw_conv_in rfl (by unfold inK; omega))) ?_
  refine rg_q (.inl rfl) rfl rfl (by exact QW.qr (qw_val (v' := .int .u8 0) (qw_index_str (c := 0) rfl rfl (by decide) rfl) rfl)) ?_
  refine rg_q (.inl rfl) rfl rfl (by exact QW.qr (qw_conv_in rfl (by unfold inK; omega))) ?_
  refine rg_q (.inl rfl) rfl rfl (by exact QW.qr (qw_add_in rfl rfl (by unfold inK; omega))) ?_
  refine rg_q (.inl rfl) rfl rfl (by exact QW.qr (qw_assign rfl)) ?_
  refine rg_nil ?_
  refine qg_then ?_
  refine cg_ret ?_
  exact qg_end (.inl rfl) _ (.cons (.tmp rfl) (.nil)) _ (by repeat (first | exact List.Sublist.refl _ | exact List.nil_sublist _ | exact List.sublist_append_right _ _ | apply List.Sublist.cons_cons | apply List.Sublist.cons | refine List.Sublist.trans ?_ (List.sublist_append_right _ _))) ⟨rfl, rfl⟩

theorem len_zero (O : Out) (L : List Blk) : CA Tryz.prog 145 [.int .u64 0] O L fun v L' => v = I 0 ∧ L' = L := by
  refine ca_enter Tryz.func145 rfl rfl ?_
  rw [Tryz.ntmps145]
  simp only [envOf]
  refine cg_seq ?_
  refine cg_region ?_
  refine rg_q (.inl rfl) rfl rfl (by exact QW.qr (qw_assign rfl)) ?_
  refine rg_nil ?_
  refine qg_then ?_
  refine cg_seq ?_
  refine cg_false rfl ?_
  refine cg_skip ?_
  refine qg_then ?_
  refine cg_seq ?_
  refine cg_region ?_
  refine rg_q (.inl rfl) rfl rfl (by exact QW.qr (qw_move rfl)) ?_
  refine rg_e (.inl rfl) rfl rfl (by exact ev_call0 rfl (.cons rfl (.nil)) (len64_zero O _)) ?_
  rintro _ _ ⟨rfl, rfl⟩
  refine rg_q (.inl rfl) rfl rfl (by exact QW.qr (qw_assign rfl)) ?_
  refine rg_nil ?_
  refine qg_then ?_
  refine cg_ret ?_
  exact qg_end (.inl rfl) _ (.cons (.tmp rfl) (.nil)) _ (by repeat (first | exact List.Sublist.refl _ | exact List.nil_sublist _ | exact List.sublist_append_right _ _ | apply List.Sublist.cons_cons | apply List.Sublist.cons | refine List.Sublist.trans ?_ (List.sublist_append_right _ _))) ⟨rfl, rfl⟩

theorem insU_none (O : Out) (L : List Blk) : CA Tryz.prog 197 [.slice none 0 0, I 0, I 0] O L fun _ L' => L' = L := by
  refine ca_enter Tryz.func197 rfl rfl ?_
  rw [Tryz.ntmps197]
  simp only [envOf]
  refine cg_seq ?_
  refine cg_region ?_
  refine rg_q (.inl rfl) rfl rfl (by exact QW.qr (qw_move rfl)) ?_
  refine rg_q (.inl rfl) rfl rfl (by exact QW.qr (qw_add_in rfl rfl (by unfold inK; omega))) ?_
  refine rg_q (.inl rfl) rfl rfl (by exact QW.qr (qw_assign rfl)) ?_
  refine rg_nil ?_
  refine qg_then ?_
  refine cg_block ?_
  refine cg_loop (fun E' L' m => E' = [(2, I 0), (6, I 1)] ∧ L' = L ∧ m = 0 + 1) _ _ _ ⟨rfl, rfl, rfl⟩ (by repeat (first | exact Sub.nil | refine Sub.cons rfl ?_ | refine Sub.cons (congrArg (fun z => some (Value.int IntKind.i64 z)) (by omega)) ?_)) (List.Perm.refl _) ?_
  rintro _ _ _ ⟨rfl, rfl, rfl⟩
  refine cg_seq ?_
  refine cg_seq ?_
  refine cg_region ?_
  refine rg_q (.inl rfl) rfl rfl (by exact QW.qr (qw_move rfl)) ?_
  refine rg_q (.inl rfl) rfl rfl (by exact QW.qr (qw_move rfl)) ?_
  refine rg_q (.inl rfl) rfl rfl (by exact QW.qr (qw_lss_f rfl rfl (by decide))) ?_
  refine rg_nil ?_
  refine qg_then ?_
  refine cg_false rfl ?_
  refine cg_exit ?_
  refine qg_then_exit ?_
  refine qg_then_exit ?_
  refine qg_block_here ?_
  exact qg_end (.inr rfl) _ (.nil) _ (by repeat (first | exact List.Sublist.refl _ | exact List.nil_sublist _ | exact List.sublist_append_right _ _ | apply List.Sublist.cons_cons | apply List.Sublist.cons | refine List.Sublist.trans ?_ (List.sublist_append_right _ _))) rfl

theorem pdqU_none (O : Out) (L : List Blk) : CA Tryz.prog 144 [.slice none 0 0, I 0, I 0, I 0] O L fun _ L' => L' = L := by
  refine ca_enter Tryz.func144 rfl rfl ?_
  rw [Tryz.ntmps144]
  simp only [envOf]
  refine cg_seq ?_
  refine cg_region ?_
  refine rg_q (.inl rfl) rfl rfl (by exact QW.qr (qw_assign rfl)) ?_
  refine rg_nil ?_
  refine qg_then ?_
  refine cg_seq ?_
  refine cg_region ?_
  refine rg_q (.inl rfl) rfl rfl (by exact QW.qr (qw_assign rfl)) ?_
  refine rg_nil ?_
  refine qg_then ?_
  refine cg_block ?_
  refine cg_loop (fun E' L' m => E' = [(0, .slice none 0 0), (1, I 0), (2, I 0), (3, I 0)] ∧ L' = L ∧ m = 0 + 1) _ _ _ ⟨rfl, rfl, rfl⟩ (by repeat (first | exact Sub.nil | refine Sub.cons rfl ?_ | refine Sub.cons (congrArg (fun z => some (Value.int IntKind.i64 z)) (by omega)) ?_)) (List.Perm.refl _) ?_
  rintro _ _ _ ⟨rfl, rfl, rfl⟩
  refine cg_block ?_
  refine cg_seq ?_
  refine cg_region ?_
  refine rg_q (.inl rfl) rfl rfl (by exact QW.qr (qw_move rfl)) ?_
  refine rg_q (.inl rfl) rfl rfl (by exact QW.qr (qw_move rfl)) ?_
  refine rg_q (.inl rfl) rfl rfl (by exact QW.qr (qw_sub_in rfl rfl (by unfold inK; omega))) ?_
  refine rg_q (.inl rfl) rfl rfl (by exact QW.qr (qw_assign rfl)) ?_
  refine rg_nil ?_
  refine qg_then ?_
  refine cg_seq ?_
  refine cg_seq ?_
  refine cg_region ?_
  refine rg_q (.inl rfl) rfl rfl (by exact QW.qr (qw_move rfl)) ?_
  refine rg_q (.inl rfl) rfl rfl (by exact QW.qr (qw_leq_t rfl rfl (by decide))) ?_
  refine rg_nil ?_
  refine qg_then ?_
  refine cg_true rfl ?_
  refine cg_seq ?_
  refine cg_region ?_
  refine rg_q (.inl rfl) rfl rfl (by exact QW.qr (qw_move rfl)) ?_
  refine rg_q (.inl rfl) rfl rfl (by exact QW.qr (qw_move rfl)) ?_
  refine rg_q (.inl rfl) rfl rfl (by exact QW.qr (qw_move rfl)) ?_
  refine rg_e (.inl rfl) rfl rfl (by exact ev_call0 rfl (.cons rfl (.cons rfl (.cons rfl (.nil)))) (insU_none O _)) ?_
  rintro _ _ rfl
  refine rg_nil ?_
  refine qg_then ?_
  refine cg_ret ?_
  refine qg_then_ret ?_
  refine qg_block_ret ?_
  refine qg_then_ret ?_
  refine qg_block_ret ?_
  exact qg_end (.inl rfl) _ (.nil) _ (by repeat (first | exact List.Sublist.refl _ | exact List.nil_sublist _ | exact List.sublist_append_right _ _ | apply List.Sublist.cons_cons | apply List.Sublist.cons | refine List.Sublist.trans ?_ (List.sublist_append_right _ _))) rfl

theorem sortU_none (O : Out) (L : List Blk) : CA Tryz.prog 77 [.slice none 0 0] O L fun _ L' => L' = L := by
  refine ca_enter Tryz.func77 rfl rfl ?_
  rw [Tryz.ntmps77]
  simp only [envOf]
  refine cg_seq ?_
  refine cg_region ?_
  refine rg_q (.inl rfl) rfl rfl (by exact QW.qr (qw_move rfl)) ?_
  refine rg_q (.inl rfl) rfl rfl (by exact QW.qr (qw_len_slice (t := 76) (.cons rfl (.nil)) rfl)) ?_
  refine rg_q (.inl rfl) rfl rfl (by exact QW.qr (qw_assign rfl)) ?_
  refine rg_nil ?_
  refine qg_then ?_
  refine cg_region ?_
  refine rg_q (.inl rfl) rfl rfl (by exact QW.qr (qw_move rfl)) ?_
  refine rg_q (.inl rfl) rfl rfl (by exact QW.qr (qw_move rfl)) ?_
  refine rg_q (.inl rfl) rfl rfl (by exact QW.qr (qw_move rfl)) ?_
  refine rg_q (.inl rfl) rfl rfl (by exact QW.qr (qw_conv_in rfl (by unfold inK; omega))) ?_
  refine rg_e (.inl rfl) rfl rfl (by exact ev_call0 rfl (.cons rfl (.nil)) (len_zero O _)) ?_
  rintro _ _ ⟨rfl, rfl⟩
  refine rg_e (.inl rfl) rfl rfl (by exact ev_call0 rfl (.cons rfl (.cons rfl (.cons rfl (.cons rfl (.nil))))) (pdqU_none O _)) ?_
  rintro _ _ rfl
  refine rg_nil ?_
  exact qg_end (.inr rfl) _ (.nil) _ (by repeat (first | exact List.Sublist.refl _ | exact List.nil_sublist _ | exact List.sublist_append_right _ _ | apply List.Sublist.cons_cons | apply List.Sublist.cons | refine List.Sublist.trans ?_ (List.sublist_append_right _ _))) rfl

theorem sortedU_none {g : Nat} {lb : List Value} (O : Out) (L : List Blk) (eg : ∀ args w, (callFunc g args).run Tryz.prog w = .ok (.enter g args) w)
    (hit : ∀ (l : Nat) (L2 : List Blk), (∀ q, q ∈ L → q ∈ L2) → CA Tryz.prog g (.func (.yield l) #[] #[] :: lb) O L2 fun _ L' => L' = L2) :
    CA Tryz.prog 33 [.func (.func g) #[] lb.toArray] O L fun v L' => v = .slice none 0 0 ∧ L' = L := by
  refine ca_enter Tryz.func33 rfl rfl ?_
  rw [Tryz.ntmps33]
  simp only [envOf]
  refine cg_seq ?_
  refine cg_region ?_
  refine rg_q (.inl rfl) rfl rfl (by exact QW.qr (qw_assign rfl)) ?_
  refine rg_nil ?_
  refine qg_then ?_
  refine cg_seq ?_
  refine cg_region ?_
  refine rg_q (.inl rfl) rfl rfl (by exact QW.qr (qw_move rfl)) ?_
  refine rg_e (.inl rfl) rfl rfl (by exact ev_call0 rfl (.cons rfl (.nil)) (collectU_none O L eg hit)) ?_
  rintro _ _ ⟨rfl, rfl⟩
  refine rg_q (.inl rfl) rfl rfl (by exact QW.qr (qw_assign rfl)) ?_
  refine rg_nil ?_
  refine qg_then ?_
  refine cg_seq ?_
  refine cg_region ?_
  refine rg_q (.inl rfl) rfl rfl (by exact QW.qr (qw_move rfl)) ?_
  refine rg_e (.inl rfl) rfl rfl (by exact ev_call0 rfl (.cons rfl (.nil)) (sortU_none O _)) ?_
  rintro _ _ rfl
  refine rg_nil ?_
  refine qg_then ?_
  refine cg_seq ?_
  refine cg_region ?_
  refine rg_q (.inl rfl) rfl rfl (by exact QW.qr (qw_move rfl)) ?_
  refine rg_q (.inl rfl) rfl rfl (by exact QW.qr (qw_assign rfl)) ?_
  refine rg_nil ?_
  refine qg_then ?_
  refine cg_ret ?_
  exact qg_end (.inl rfl) _ (.cons (.tmp rfl) (.nil)) _ (by repeat (first | exact List.Sublist.refl _ | exact List.nil_sublist _ | exact List.sublist_append_right _ _ | apply List.Sublist.cons_cons | apply List.Sublist.cons | refine List.Sublist.trans ?_ (List.sublist_append_right _ _))) ⟨rfl, rfl⟩

theorem sortedU_empty (bk bm c : Nat) (O : Out) (L : List Blk) (hk : (bk, .cells #[.map (some bm)] 107 (0, 0)) ∈ L) (hm : (bm, .map #[] c) ∈ L) :
    CA Tryz.prog 33 [.func (.func 78) #[] #[.pointer (some ⟨bk, 0, none⟩)]] O L fun v L' => v = .slice none 0 0 ∧ L' = L :=
  sortedU_none (lb := [.pointer (some ⟨bk, 0, none⟩)]) O L (enters_of Tryz.func78 (by kernel_rfl) rfl) (fun l L2 h2 => keysU1_ca _ bk bm c O L2 (h2 _ hk) (h2 _ hm))
end Go.Proofs.YthmicniimofagaaGreat