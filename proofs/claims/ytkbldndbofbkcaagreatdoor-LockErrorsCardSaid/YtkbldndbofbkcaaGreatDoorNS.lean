/- The engine, part S: ranges over maps. | maps.Values: the iterator over the changes of a map; slices.AppendSeq, slices.Collect. | maps.Values, slices.AppendSeq, slices.Collect at changes; the comparison. | slices.SortFunc at changes, up to twelve; view.sorted, Writes, Reads. | slices.SortFunc, slices.SortedFunc at changes, up to twelve; view.sorted, Writes, Reads. | state: Len, With, Without, Apply. | view: Writes, Reads, After. -/
import Derived.Test.YtkbldndbofbkcaaGreatDoorMA
import Derived.Maps.RangeRun
import Derived.Test.YtkbldndbofbkcaaGreatDoorMD
import Derived.Test.YtkbldndbofbkcaaGreatDoorNL
set_option linter.unusedSimpArgs false
set_option linter.unusedVariables false
/- The engine, part S: ranges over maps. -/
namespace Go.Proofs.YtkbldndbofbkcaaGreatDoor
open Go Go.RowKit
theorem left_mem {es : Array MapEntry} {seen : Array Nat} {e : MapEntry} : e ∈ (leftOf es seen).toList ↔ e ∈ es.toList ∧ e.born ∉ seen.toList := by
  unfold leftOf
  simp
section
variable {X : Cx} {P : Program} {N : Nat} {Q : Exit → Fr → World → Prop} {f : Fr} {w w0 : World} {M : List Nat} {H : List Ent} {ops : Array Oper} {rest : List Oper}
variable {d r m c : Nat} {T A K E : TypeId} {p : String} {aft : Array Edge} {x : Operand} {es : Array MapEntry} {seen : Array Nat} {F : Obj → List Ent} {q : Bool} {e : MapEntry}
theorem W_rangeM (hs : St w0 M w H) [hA : UnE P A (.map K E)] [hm : InB m H q (.map es c)] (hx : ev N f x = .map (some m)) (k : ∀ w' g, St w0 M w' (eB g true (.mapIter (some m) c #[] c) :: H) → w.heap.size ≤ g → Fm [] w w' → WL X P N ops Q rest (upd f d (.pointer (some ⟨g, 0, none⟩))) w') :
    WL X P N ops Q (⟨some d, .range A x, T, p, aft, none⟩ :: rest) f w := by
  refine WL_v (v := .pointer (some ⟨w.heap.size, 0, none⟩)) (w' := w.alloc (.mapIter (some m) c #[] c)) ?_ (k _ _ (hs.new _) (Nat.le_refl _) (fm_alloc _ _))
  have hb := hs.get hm.h
  simp [Ex, execOp, Instr.range, hx, run_underlying hA.h, goMap hb, newObj, Sem.run]
theorem W_nextM (hs : St w0 M w H) (hx : ev N f x = .pointer (some ⟨r, 0, none⟩)) [hr : RpB r H (.mapIter (some m) c seen c) F] [hm : InB m H q (.map es c)] (hold : ∀ e ∈ es.toList, e.born < c)
    (K : ∀ w' (b : Bool) (e : MapEntry) (seen' : Array Nat), (b = false → (leftOf es seen).size = 0) → (b = true → e ∈ (leftOf es seen).toList ∧ seen' = seen.push e.born) → St w0 M w' (F (.mapIter (some m) c seen' c)) →
      WL X P N ops Q rest (upd f d (.tuple (.bool b :: if b then [e.key, e.val] else []).toArray)) w') :
    WL X P N ops Q (⟨some d, .next x false, T, p, aft, none⟩ :: rest) f w := by
  have hb := hs.get (hr.h (.map #[] 0)).mem
  rcases run_next_at (P := P) w T r m c c seen es c hb (hs.get hm.h) hold (Nat.le_refl _) with ⟨h1, h2⟩ | ⟨e, he, w1, hw1, h2⟩
  · refine WL_v (v := .tuple #[.bool false]) (w' := w) ?_ (K w false ⟨undef, undef, 0⟩ seen (fun _ => h1) (fun q => by cases q) (hs.rep (hr.h _) rfl (Fm.refl _ _) hb (fun z hz => .inl hz)))
    simp [Ex, execOp, hx, h2]
  · have hs1 : St w0 M w1 H := by
      rcases hw1 with rfl | rfl
      · exact hs
      · exact hs.dr _
    have hb1 : w1.heap[r]? = some (.mapIter (some m) c seen c) := hs1.get (hr.h (.map #[] 0)).mem
    refine WL_v (v := .tuple #[.bool true, e.key, e.val]) (w' := w1.putObj r (.mapIter (some m) c (seen.push e.born) c)) ?_ (K _ true e _ (fun q => by cases q) (fun _ => ⟨he, rfl⟩) (hs1.rep (hr.h _) rfl (fm_put w1 r _) (World.putObj_heap_same (heap_lt hb1)) (fun z hz => .inl hz)))
    simp only [Ex, execOp, hx, Sem.run_bind, h2, Result.andThen_ok, Sem.run_pure]
    rfl
theorem X_entryM (hs : St w0 M w H) (hx : ev N f x = .pointer (some ⟨r, 0, none⟩)) [hr : InB r H true (.mapIter (some m) c (seen.push e.born) c)] [hm : InB m H q (.map es c)] (he : e ∈ es.toList) (hn : (es.toList.map (·.born)).Nodup) :
    Ex P N f w ⟨some d, .entry x, T, p, aft, none⟩ (.tuple #[e.key, e.val]) w := by
  have h := run_entry_at (P := P) w r m c seen es c e (hs.get hr.h) (hs.get hm.h) he hn
  simp [Ex, execOp, hx, h]
end
section
variable {X : Cx} {P : Program} {ops : Array Oper} {Qa : Exit → Act → World → Prop}
/-- An operation on values alone is taken first, whatever 'last' is. -/
theorem DA_firstP {last i : Nat} {oi : Oper} {v : Value} {C : World → Prop} (hi : ops[i]? = some oi) (hsel : ∀ (j : Nat) (o : Oper) cs b, ops[j]? = some o → o.op ≠ .select cs b)
    (hQ : ∀ c a w, Qa (.panic c) (a.put oi.dst v) w → Qa (.panic c) a w) (hil : i ≠ last) :
    ∀ (n : Nat) (L : Array Bool) (a : Act) (w : World), L.size = ops.size → Cl ops L →
      (∀ j oj, ops[j]? = some oj → j ≠ i → L.getD j true = false → (∀ e ∈ oj.after, Region.binds .any e = true → e.on ≠ i) → oi.apart ops oj = true) →
      i ∈ Region.ready .any ops L → YieldsIf P ops (fun _ => True) oi v a → (L.getD last false = true ∨ C w) → DA P ops Qa last C n (L.setIfInBounds i true) (a.put oi.dst v) w → DA P ops Qa last C (n + 1) L a w := by
  intro n
  induction n with
  | zero =>
    intro L a w _ _ _ hr hy hC H
    refine ⟨fun h => (by rw [h] at hr; cases hr), fun j hj => ?_⟩
    by_cases hji : j = i
    · subst hji; exact hy.wpOp hi trivial ⟨hC.imp getD_set_true id, H⟩
    · have := ready_mono hj hji
      rw [H.1] at this; cases this
  | succ n ih =>
    intro L a w hsz hcl hfree hr hy hC H
    refine ⟨fun h => (by rw [h] at hr; cases hr), fun j hj => ?_⟩
    by_cases hji : j = i
    · subst hji; exact hy.wpOp hi trivial ⟨hC.imp getD_set_true id, H⟩
    · have hiun : ¬ L.getD i false = true := fun hq => by
        have h0 := (mem_ready.1 hr).1
        rcases Nat.lt_or_ge i L.size with h' | h'
        · simp [h'] at h0 hq; rw [h0] at hq; cases hq
        · simp [Array.getElem?_eq_none h'] at hq
      have h1 := H.2 j (ready_mono hj hji)
      obtain ⟨hjun, oj, hoj, hall⟩ := mem_ready.1 hj
      have hnot : ∀ e ∈ oj.after, Region.binds .any e = true → e.on ≠ i := fun e he hb heq => by
        have := hall e he hb; rw [heq] at this; exact hiun this
      have h2 := wpOp_putIf hoj (hfree j oj hoj hji hjun hnot) (fun cs b => hsel i oi cs b hi) (fun cs b => hsel j oj cs b hoj) hQ hy h1
      have hfree' : ∀ k ok, ops[k]? = some ok → k ≠ i → (L.setIfInBounds j true).getD k true = false → (∀ e ∈ ok.after, Region.binds .any e = true → e.on ≠ i) → oi.apart ops ok = true := fun k ok hk hki hun hno => by
        refine hfree k ok hk hki ?_ hno
        by_cases hjk : j = k
        · subst hjk; exact hjun
        · rw [getD_set_ne true hjk] at hun; exact hun
      refine wpOp_mono (fun a' w' h3 => ?_) h2
      have hC' : (L.setIfInBounds j true).getD last false = true ∨ C w' := by
        rcases h3.2.1 with h4 | h4
        · left
          rw [Array.setIfInBounds_comm _ _ (Ne.symm hji), getD_set_ne false hil] at h4
          exact h4
        · exact .inr h4
      refine ⟨hC', ih (L.setIfInBounds j true) a' w' (by simpa using hsz) (hcl.step hj) hfree' (ready_mono hr (Ne.symm hji)) h3.1 hC' ?_⟩
      rw [Array.setIfInBounds_comm _ _ hji]
      exact h3.2.2
end
def dqp (ops : Array Oper) (done : List Nat) (last i : Nat) : Bool :=
  Region.noSelect ops && Region.free .any ops (Lm ops.size done) i && (Region.ready .any ops (Lm ops.size done)).contains i && clB ops (Lm ops.size done) && i != last
section
variable {X : Cx} {P : Program} {N : Nat} {Q : Exit → Fr → World → Prop} {f : Fr} {w w0 : World} {M : List Nat} {H Hc : List Ent} {ops : Array Oper} {last n : Nat} {done : List Nat}
theorem DW_qp (hs : St w0 M w H) [hsub : SubH Hc H] (i : Nat) {d : Nat} {op : Op} {T : TypeId} {p : String} {aft : Array Edge} {v : Value} (hi : ops[i]? = some ⟨some d, op, T, p, aft, none⟩) (hd : dqp ops done last i = true)
    (hv : ∀ w', Ex P N f w' ⟨some d, op, T, p, aft, none⟩ v w') (k : DW X P N ops Q last Hc n (i :: done) (upd f d v) w) : DW X P N ops Q last Hc (n + 1) done f w := by
  unfold dqp at hd
  simp only [Bool.and_eq_true] at hd
  obtain ⟨⟨⟨⟨h1, h2⟩, h3⟩, h4⟩, h5⟩ := hd
  refine DA_firstP hi (Region.noSelect_spec h1) (fun _ _ _ h => h) (by simpa using h5) n (Lm ops.size done) (FA X N f) w (Lm_size _ _) (clB_spec h4) (Region.free_spec hi h2) (by simpa using h3)
    (.inl ⟨rfl, fun w' _ => by have := hv w'; unfold Ex at this; rw [FA_eval]; exact this⟩) (.inr fun e he => hs.has e (hsub.h e he)) ?_
  rw [FA_put]; exact k
/-- One operation is left to come, 'last' being done. -/
theorem DW_lx (i : Nat) {o : Oper} (hi : ops[i]? = some o) (hr : Region.ready .any ops (Lm ops.size done) = [i]) (hl : (Lm ops.size done).getD last false = true)
    (h : WL X P N ops (onlyN fun f' w' => DW X P N ops Q last Hc n (i :: done) f' w') [o] f w) : DW X P N ops Q last Hc (n + 1) done f w := by
  refine ⟨fun h0 => absurd (hr ▸ h0) (by simp), fun j hj => ?_⟩
  rw [hr] at hj
  simp only [List.mem_singleton] at hj
  subst hj
  refine wpOp_mono ?_ (wpOp_of_WL hi h)
  rintro a' w' ⟨f', rfl, h2⟩
  exact ⟨.inl (getD_set_true hl), h2⟩
end
end Go.Proofs.YtkbldndbofbkcaaGreatDoor
/- maps.Values: the iterator over the changes of a map; slices.AppendSeq, slices.Collect. -/
namespace Go.Proofs.YtkbldndbofbkcaaGreatDoor
open Go Go.RowKit
attribute [local irreducible] WL CW DW Ret RW
abbrev Ch := ONm × ByteArray × Bool
def ch0 : Ch := (⟨0, ⟨#[]⟩, 0, 0, ⟨#[]⟩⟩, ⟨#[]⟩, false)
def me0 : MapEntry := ⟨undef, undef, 0⟩
def encC (x : Ch) : Value := .agg (chV x.1 x.2).toArray
structure Itr (es : Array MapEntry) (N : Chs) (idxs : List Nat) (seen : Array Nat) : Prop where
  nd : idxs.Nodup
  lt : ∀ i ∈ idxs, i < N.length
  sn : seen.toList = idxs.map fun i => (es.toList.getD i me0).born
theorem nd_le : ∀ (n : Nat) (l : List Nat), l.Nodup → (∀ x ∈ l, x < n) → l.length ≤ n
  | 0, l, _, h => by
    cases l with
    | nil => exact Nat.le_refl _
    | cons a l => have := h a (.head _); omega
  | n + 1, l, nd, h => by
    have h1 := nd_le n (l.erase n) (nd.erase _) (fun x hx => by
      have h2 := (nd.mem_erase_iff).1 hx
      have := h x h2.2; omega)
    have h2 := List.length_erase (a := n) (l := l)
    split at h2 <;> omega
theorem itr_nil (es : Array MapEntry) (N : Chs) : Itr es N [] #[] := ⟨.nil, by simp, rfl⟩
section
variable {es : Array MapEntry} {N : Chs} {c : Nat} {idxs : List Nat} {seen : Array Nat}
theorem mi_len (hM : MapIs encN (NV N) es c) : es.toList.length = N.length := by
  have := congrArg List.length hM.kv
  simpa [NV] using this
theorem mi_val (hM : MapIs encN (NV N) es c) {i : Nat} (h : i < N.length) : (es.toList[i]'(by rw [mi_len hM]; exact h)).val = encC N[i] := by
  have h1 : (es.toList.map (fun e => (e.key, e.val)))[i]? = ((NV N).map (fun x => (encN x.1, x.2)))[i]? := by rw [hM.kv]
  have hl := mi_len hM
  rw [List.getElem?_map, List.getElem?_map, List.getElem?_eq_getElem (show i < es.toList.length by omega)] at h1
  unfold NV at h1
  rw [List.getElem?_map, List.getElem?_eq_getElem h] at h1
  simp only [Option.map_some, Option.some.injEq, Prod.mk.injEq] at h1
  exact h1.2
theorem Itr.next (hM : MapIs encN (NV N) es c) (h : Itr es N idxs seen) {e : MapEntry} (he : e ∈ (leftOf es seen).toList) :
    ∃ i, i < N.length ∧ e.val = encC (N.getD i ch0) ∧ e ∈ es.toList ∧ Itr es N (idxs ++ [i]) (seen.push e.born) ∧ idxs.length + 1 ≤ N.length := by
  obtain ⟨h1, h2⟩ := left_mem.1 he
  have hl := mi_len hM
  obtain ⟨i, hi, rfl⟩ := List.getElem_of_mem h1
  have hiN : i < N.length := by omega
  have hg : es.toList.getD i me0 = es.toList[i] := by rw [List.getD_eq_getElem?_getD, List.getElem?_eq_getElem hi]; rfl
  have hni : i ∉ idxs := fun q => h2 (by rw [h.sn]; exact List.mem_map.2 ⟨i, q, by rw [hg]⟩)
  have hI : Itr es N (idxs ++ [i]) (seen.push es.toList[i].born) := by
    refine ⟨List.nodup_append.2 ⟨h.nd, by simp, fun a ha b hb q => ?_⟩, fun j hj => ?_, ?_⟩
    · simp at hb; subst hb; subst q; exact hni ha
    · rcases List.mem_append.1 hj with hj | hj
      · exact h.lt j hj
      · simp at hj; subst hj; exact hiN
    · rw [Array.toList_push, h.sn, List.map_append, List.map_cons, List.map_nil, hg]
  refine ⟨i, hiN, ?_, h1, hI, ?_⟩
  · rw [mi_val hM hiN]; simp [List.getD, hiN]
  · have h3 := nd_le _ _ hI.nd hI.lt
    simp at h3; omega
theorem Itr.done (hM : MapIs encN (NV N) es c) (h : Itr es N idxs seen) (h0 : (leftOf es seen).size = 0) : (idxs.map fun i => N.getD i ch0).Perm N := by
  have hl := mi_len hM
  have hp : idxs.Perm (List.range N.length) := by
    rw [List.perm_ext_iff_of_nodup h.nd List.nodup_range]
    intro i
    constructor
    · intro q; exact List.mem_range.2 (h.lt i q)
    · intro q
      have hi : i < es.toList.length := by rw [hl]; exact List.mem_range.1 q
      have h1 : es.toList[i].born ∈ seen.toList := by
        by_cases z : es.toList[i].born ∈ seen.toList
        · exact z
        · have := left_mem.2 ⟨List.getElem_mem hi, z⟩
          have h2 : (leftOf es seen).toList = [] := by
            apply List.eq_nil_of_length_eq_zero; simpa using h0
          rw [h2] at this; cases this
      rw [h.sn] at h1
      obtain ⟨k, hk, e⟩ := List.mem_map.1 h1
      have hkl : k < es.toList.length := by rw [hl]; exact h.lt k hk
      have e2 : (es.toList.map (·.born))[k]'(by simpa using hkl) = (es.toList.map (·.born))[i]'(by simpa using hi) := by
        rw [List.getElem_map, List.getElem_map, ← e, List.getD_eq_getElem?_getD, List.getElem?_eq_getElem hkl]; rfl
      have := (List.getElem_inj hM.nd).1 e2
      subst this; exact hk
  have e : (List.range N.length).map (fun i => N.getD i ch0) = N := by
    apply List.ext_getElem
    · simp
    · intro i h1 h2
      simp [List.getD, h2]
  have := hp.map (fun i => N.getD i ch0)
  rw [e] at this
  exact this
end
/-- The iterator. -/
theorem it_vals (g m : Nat) (N : Chs) (es : Array MapEntry) (c : Nat) (hM : MapIs encN (NV N) es c) : ItC Tryz.prog 195 [.pointer (some ⟨g, 0, none⟩)] encC (fun xs => xs.Perm N) (fun pre => pre.length ≤ N.length)
    (fun e W => g ∉ e.fp ∧ m ∉ e.fp ∧ W.heap[g]? = some (Blk 132 [.map (some m)]) ∧ W.heap[m]? = some (.map es c)) := by
  intro l J Jx e W0 ⟨hg1, hm1, hg2, hm2⟩ ho he h0 hY
  have hgm : g ≠ m := by rintro rfl; rw [hg2] at hm2; cases hm2
  have hs1 : St W0 e.fp W0 [eB m false (.map es c), e] := (St.ent he).put (e := eB m false _) hm2 (by intro x hx b hb; simp at hx; subst hx; simp [eB] at hb; subst hb; exact hm1) (fun h => by cases h)
  have hs : St W0 e.fp W0 [eB g false (Blk 132 [.map (some m)]), eB m false (.map es c), e] := hs1.put (e := eB g false _) hg2 (by
    intro x hx b hb hq; simp [eB] at hb; subst hb; simp at hx
    rcases hx with rfl | rfl
    · simp [eB] at hq; exact hgm hq
    · exact hg1 hq) (fun h => by cases h)
  refine Ret_enter Tryz.func195 rfl Tryz.ntmps195 (by simp) ?_
  refine CW_seq (fun K1 hK1 => ?_)
  refine CW_region ?_
  refine ld hs rfl rfl ?_
  refine W_rangeM hs rfl ?_
  intro w g6 hs hg6 hf6
  refine WL_nil ?_
  refine hK1 _ _ ?_
  refine CW_block ?_
  refine CW_loop (fun k f w' => ∃ (e' : Ent) (idxs : List Nat) (seen : Array Nat), k = N.length + 1 - idxs.length ∧ idxs.length ≤ N.length ∧ f 0 = .func (.yield l) #[] #[] ∧ f 6 = .pointer (some ⟨g6, 0, none⟩) ∧ e'.own = true ∧ J (idxs.map fun i => N.getD i ch0) e' ∧ Itr es N idxs seen ∧ St W0 e.fp w' [eB g6 true (.mapIter (some m) c seen c), eB m false (.map es c), e']) (N.length + 1) ?_ ?_
  · exact ⟨e, [], #[], rfl, Nat.zero_le _, rfl, rfl, ho, h0, itr_nil es N, hs.sel⟩
  · rintro k f w ⟨e', idxs, seen, rfl, hil, e0, e6, ho', hJ, hI, hs⟩
    refine CW_kn (i := 0) e0 (CW_kn (i := 6) e6 ?_)
    refine CW_seq (fun K2 hK2 => ?_)
    refine CW_region ?_
    refine W_nextM hs rfl hM.lt ?_
    intro w b en seen' hbf hbt hs
    refine ext rfl rfl ?_
    refine WL_nil ?_
    refine hK2 _ _ ?_
    refine CW_seq (fun K3 hK3 => ?_)
    refine CW_cond rfl (fun hc8 => ?_) (fun hc8 => ?_)
    · skip
      have hb8 : b = true := by simpa using hc8
      obtain ⟨hen, rfl⟩ := hbt hb8
      obtain ⟨i, hiN, hval, hmem, hI2, hle⟩ := hI.next hM hen
      refine CW_skip ?_
      refine hK3 _ _ ?_
      refine CW_block ?_
      refine CW_seq (fun K4 hK4 => ?_)
      refine CW_region ?_
      refine WL_v (X_entryM hs rfl hmem hM.nd) ?_
      refine ext rfl rfl ?_
      refine alc hs ?_
      intro w g4 hs hg4 hf4
      refine sto (encC (N.getD i ch0)) (vl := chV (N.getD i ch0).1 (N.getD i ch0).2) hs rfl hval rfl rfl (by simp) rfl ?_
      intro w hs _
      replace hs : St W0 _ w (eB g4 true (Blk 117 (chV (N.getD i ch0).1 (N.getD i ch0).2)) :: _) := hs
      refine WL_nil ?_
      refine hK4 _ _ ?_
      refine CW_seq (fun K5 hK5 => ?_)
      refine CW_regionY 2 rfl (by kernel_rfl) ?_
      apply mv
      refine ldA hs rfl (by simp) ?_
      refine WL_nil ?_
      refine ⟨_, rfl, YOp_mono (YOp_it (hY (idxs.map fun i => N.getD i ch0) (N.getD i ch0) e' _ (by simp; omega) hJ ho' (hs.he e'))) ?_⟩
      rintro _ w ⟨v, e2, rfl, ht, hv⟩
      replace hs := hs.turnE ho' ht
      refine notW rfl ?_
      refine WL_nil ?_
      refine hK5 _ _ ?_
      refine CW_cond rfl (fun hc14 => ?_) (fun hc14 => ?_)
      · skip
        refine CW_ret ?_
        repeat (first | (with_reducible apply thenF_ret) | (with_reducible apply blockF_ret))
        try simp only [thenF, blockF, reduceIte]
        refine Post_r Tryz.results195 .nil ?_
        try simp only [ev_tmp, ev_const, upd_ap, Nat.reduceLT, Nat.reduceEqDiff, reduceIte]
        have hvf : v = false := by simpa using hc14
        rw [if_neg (by simp [hvf])] at hv
        exact ⟨e2, hs.turned e2 ht.1, .inr ⟨(idxs.map fun i => N.getD i ch0) ++ [N.getD i ch0], by simp; omega, hv⟩⟩
      · skip
        refine CW_skip ?_
        skip
        refine ⟨N.length + 1 - (idxs.length + 1), by omega, e2, idxs ++ [i], seen.push en.born, by simp, by simp; omega, rfl, rfl, ht.1, ?_, hI2, hs.sel⟩
        rw [if_pos (by simpa using hc14)] at hv
        rw [List.map_append]; exact hv
    · skip
      refine CW_exit ?_
      try simp only [thenF, blockF, reduceIte]
      refine Post_n Tryz.results195 .nil ?_
      try simp only [ev_tmp, ev_const, upd_ap, Nat.reduceLT, Nat.reduceEqDiff, reduceIte]
      have hb8 : b = false := by simpa using hc8
      exact ⟨e', hs.turned e' ho', .inl ⟨_, hI.done hM (hbf hb8), hJ⟩⟩
end Go.Proofs.YtkbldndbofbkcaaGreatDoor
/- maps.Values, slices.AppendSeq, slices.Collect at changes; the comparison. -/
namespace Go.Proofs.YtkbldndbofbkcaaGreatDoor
open Go Go.RowKit
attribute [local irreducible] WL CW DW Ret RW
abbrev kVal : FuncId := 195
theorem Values_ok (m : Nat) (w0 : World) :
    Ret Tryz.prog 172 #[.map (some m)] w0 fun v w' => ∃ g, v = .func (.func kVal) #[] #[.pointer (some ⟨g, 0, none⟩)] ∧ w'.heap[g]? = some (Blk 132 [.map (some m)]) ∧ w0.heap.size ≤ g ∧ Fm [] w0 w' := by
  have hs := St.init w0 []
  refine Ret_enter Tryz.func172 rfl Tryz.ntmps172 (by simp) ?_
  refine CW_seq (fun K1 hK1 => ?_)
  refine CW_region ?_
  refine bx (.map (some m)) (vl := [.map (some m)]) hs rfl rfl ?_
  intro w g1 hs hg1 hf1
  apply asg
  refine WL_nil ?_
  refine hK1 _ _ ?_
  refine CW_seq (fun K2 hK2 => ?_)
  refine CW_region ?_
  apply mkf
  apply asg
  refine WL_nil ?_
  refine hK2 _ _ ?_
  refine CW_ret ?_
  repeat (first | (with_reducible apply thenF_ret) | (with_reducible apply blockF_ret))
  try simp only [thenF, blockF, reduceIte]
  refine Post_r Tryz.results172 (.tmp rfl .nil) ?_
  try simp only [ev_tmp, ev_const, upd_ap, Nat.reduceLT, Nat.reduceEqDiff, reduceIte]
  exact ⟨g1, rfl, hs.get InB.h, hs.geB, hs.fm⟩
def pA (g2 : Nat) (a : Option Addr) (n cap : Nat) (L : Chs) : List Ent :=
  [eR (.slice a n cap) 117 7 n (CV L), eB g2 true (Blk 96 [.slice a n cap])]
theorem AppendSeq_ok (g m : Nat) (N : Chs) (es : Array MapEntry) (c : Nat) (w0 : World) (hM : MapIs encN (NV N) es c) (hg : w0.heap[g]? = some (Blk 132 [.map (some m)])) (hm : w0.heap[m]? = some (.map es c)) (hN : N.length ≤ 100000) :
    Ret Tryz.prog 205 #[.slice none 0 0, .func (.func kVal) #[] #[.pointer (some ⟨g, 0, none⟩)]] w0 fun v w' =>
      (∃ (L : Chs) (a : Option Addr) (n cap : Nat), v = .slice a n cap ∧ L.Perm N ∧ n = L.length ∧ NewR w0 w' 117 7 n (.slice a n cap) (CV L)) ∧ Fm [] w0 w' := by
  have hs := St.init w0 []
  have hgl := heap_lt hg
  have hml := heap_lt hm
  refine RW_enter Tryz.func205 rfl Tryz.ntmps205 (by simp) ?_
  refine RW_seq (fun K1 hK1 => ?_)
  refine CW_region ?_
  refine bx (.slice none 0 0) (vl := [.slice none 0 0]) hs rfl rfl ?_
  intro w g2 hs hg2 hf2
  have hg2' : w0.heap.size ≤ g2 := hs.geB
  have hs2 : St w0 [] w [eL (pA g2 none 0 0 [])] := (hs.nilR 117 7).pack (by simp [eR, eB])
  refine asp (.slice _ _ _) rfl ?_
  refine WL_nil ?_
  refine hK1 _ _ ?_
  refine RW_range (fun K2 hK2 => ?_)
  refine CW_region ?_
  apply mv
  refine WL_nil ?_
  refine hK2 _ _ ?_
  intro Q hn hr
  refine range_law (lb := [.pointer (some ⟨g, 0, none⟩)]) rfl (it_vals g m N es c hM)
    (fun xs e => ∃ a n cap, e = eL (pA g2 a n cap xs) ∧ n = xs.length)
    (fun _ _ _ => False)
    (eL (pA g2 none 0 0 [])) rfl (hs2.he _) ⟨none, 0, 0, rfl, rfl⟩ ?pre ?round ?done ?stop
  case pre =>
    intro e W hfp hfm
    have key : ∀ b, b < w0.heap.size → b ∉ e.fp := fun b hb hm => by
      rcases hfp b hm with h | h
      · obtain ⟨x, hx, hb'⟩ := eL_mem.1 h
        simp [pA] at hx
        rcases hx with rfl | rfl <;> simp [eR, eB, Value.ownBlock] at hb' <;> omega
      · have := hs2.fm.size; omega
    exact ⟨key g hgl, key m hml, (hs2.fm.then hfm).keep hg (by simp), (hs2.fm.then hfm).keep hm (by simp)⟩
  · skip
    rintro l Lr Lb pre x e W hSp ⟨a, n, cap, rfl, hlen⟩ _ heW hl hLr
    have hs : St W (l :: (eL (pA g2 a n cap pre)).fp) W (pA g2 a n cap pre ++ [eB l true Lr]) := St.rnd heW hl hLr
    simp only [pA, List.cons_append, List.nil_append] at hs
    have hpl : n + 1 ≤ 100000 := by simp at hSp; omega
    refine CW_regionR (by kernel_rfl) ?_
    refine alc hs ?_
    intro w g5 hs hg5 hf5
    refine sto (encC x) (vl := chV x.1 x.2) hs rfl rfl rfl rfl (by simp) rfl ?_
    intro w hs _
    refine WL_nil ?_
    refine ⟨rfl, hs.get InB.h, ?_⟩
    replace hs := hs.putD l Lb
    replace hs : St W _ _ (eB g5 true (Blk 117 (chV x.1 x.2)) :: _) := hs
    refine CW_block ?_
    refine CW_regionR (by kernel_rfl) ?_
    refine ld hs rfl rfl ?_
    refine ldA hs rfl (by simp) ?_
    refine W_bslice hs (BS.ag (vl := chV x.1 x.2) rfl (by rfl) .nil) rfl (by simp) ?_
    intro w g10 hs hg10 hf10
    refine app1 hs rfl rfl (by rfl) (by rfl) (by decide) (by rfl) (by omega) (by omega) ?_
    intro a2 c2 w hs _
    refine sto (.slice a2 (n + 1) c2) hs rfl rfl rfl rfl (by simp) rfl ?_
    intro w hs _
    replace hs : St W _ w (_ :: _ :: _ :: eB g2 true (Blk 96 [.slice a2 (n + 1) c2]) :: _) := hs
    refine WL_nil ?_
    skip
    have e1 : CV (pre ++ [x]) = CV pre ++ (chV x.1 x.2 ++ []) := by rw [List.append_nil]; exact CV_snoc pre x.1 x.2
    have hs3 : St W (l :: (eL (pA g2 a n cap pre)).fp) w (pA g2 a2 (n + 1) c2 (pre ++ [x]) ++ [eB l true Lb]) := by
      unfold pA
      rw [e1]
      simp only [List.cons_append, List.nil_append]
      exact hs.sel
    obtain ⟨k1, e', he', k3, k4, k5, k6⟩ := hs3.rndEnd (by simp [pA, eB, eR])
    exact ⟨k1, e', k3, k4, k5, k6, a2, n + 1, c2, he', by simp [hlen]⟩
  · skip
    rintro D xs e W hS ⟨a, n, cap, rfl, hlen⟩ ht hD hDw hDb
    have hs := (hs2.turnE rfl ht).unpack
    replace hs := hs.put (e := eB D true (.deferred (some []))) hDb (fun y hy b hb hq => by simp [eB] at hb; subst hb; exact hD (eL_mem.2 ⟨y, hy, hq⟩)) (fun _ b hb => by simp [eB] at hb; subst hb; have := hs2.fm.size; left; omega)
    simp only [pA] at hs
    refine hn D _ _ ?_
    refine CW_seq (fun K3 hK3 => ?_)
    refine CW_region ?_
    refine ld hs rfl rfl ?_
    refine asp (.slice _ _ _) rfl ?_
    refine WL_nil ?_
    refine hK3 _ _ ?_
    refine CW_ret ?_
    repeat (first | (with_reducible apply thenF_ret) | (with_reducible apply blockF_ret))
    refine PostM_mk (hs.get (b := D) InB.h) ?_
    replace hs := hs.putD D (.deferred none)
    refine Post_r Tryz.results205 (.tmp rfl .nil) ?_
    try simp only [ev_tmp, ev_const, upd_ap, Nat.reduceLT, Nat.reduceEqDiff, reduceIte]
    exact ⟨⟨xs, a, n, cap, rfl, hS, hlen, hs.newR⟩, hs.fm⟩
  · skip
    rintro D c' pre e W hSp hJ ht hD hDw hDb
    exact hJ.elim
theorem Collect_ok (g m : Nat) (N : Chs) (es : Array MapEntry) (c : Nat) (w0 : World) (hM : MapIs encN (NV N) es c) (hg : w0.heap[g]? = some (Blk 132 [.map (some m)])) (hm : w0.heap[m]? = some (.map es c)) (hN : N.length ≤ 100000) :
    Ret Tryz.prog 193 #[.func (.func kVal) #[] #[.pointer (some ⟨g, 0, none⟩)]] w0 fun v w' =>
      (∃ (L : Chs) (a : Option Addr) (n cap : Nat), v = .slice a n cap ∧ L.Perm N ∧ n = L.length ∧ NewR w0 w' 117 7 n (.slice a n cap) (CV L)) ∧ Fm [] w0 w' := by
  have hs := St.init w0 []
  refine Ret_enter Tryz.func193 rfl Tryz.ntmps193 (by simp) ?_
  refine CW_seq (fun K1 hK1 => ?_)
  refine CW_region ?_
  refine asp (.slice _ _ _) rfl ?_
  refine WL_nil ?_
  refine hK1 _ _ ?_
  refine CW_seq (fun K2 hK2 => ?_)
  refine CW_region ?_
  apply mv
  refine cll (AppendSeq_ok g m N es c _ hM (hs.fm.keep hg (by simp)) (hs.fm.keep hm (by simp)) hN) ?_
  rintro _ w ⟨⟨L, a, n, cap, rfl, hp, hn, hnew⟩, hf⟩
  replace hs := hs.callR hf hnew
  refine asp (.slice _ _ _) rfl ?_
  refine WL_nil ?_
  refine hK2 _ _ ?_
  refine CW_ret ?_
  repeat (first | (with_reducible apply thenF_ret) | (with_reducible apply blockF_ret))
  try simp only [thenF, blockF, reduceIte]
  refine Post_r Tryz.results193 (.tmp rfl .nil) ?_
  try simp only [ev_tmp, ev_const, upd_ap, Nat.reduceLT, Nat.reduceEqDiff, reduceIte]
  exact ⟨⟨L, a, n, cap, rfl, hp, hn, hs.newR⟩, hs.fm⟩
theorem cmpC_ok (x y : Ch) (w0 : World) (hx : x.1.owner.size ≤ 9223372036854775807) (hy : y.1.owner.size ≤ 9223372036854775807) :
    Ret Tryz.prog 173 #[encC x, encC y] w0 fun v w' => v = .int .i64 (ocmp x.1 y.1) ∧ Fm [] w0 w' := by
  have hs := St.init w0 []
  refine Ret_enter Tryz.func173 rfl Tryz.ntmps173 (by simp) ?_
  refine CW_seq (fun K1 hK1 => ?_)
  refine CW_region ?_
  refine bx (encC x) (vl := chV x.1 x.2) hs rfl rfl ?_
  intro w g2 hs hg2 hf2
  refine bx (encC y) (vl := chV y.1 y.2) hs rfl rfl ?_
  intro w g3 hs hg3 hf3
  refine asp (.int _ _) rfl ?_
  refine WL_nil ?_
  refine hK1 _ _ ?_
  refine CW_seq (fun K2 hK2 => ?_)
  refine CW_region ?_
  refine fad rfl ?_
  refine ldA hs rfl (by simp) ?_
  refine fad rfl ?_
  refine ldA hs rfl (by simp) ?_
  refine cll (OCompare_ok x.1 y.1 _ hx hy) ?_
  rintro _ w ⟨rfl, hf⟩
  replace hs := hs.call hf
  refine asp (.int _ _) rfl ?_
  refine WL_nil ?_
  refine hK2 _ _ ?_
  refine CW_ret ?_
  repeat (first | (with_reducible apply thenF_ret) | (with_reducible apply blockF_ret))
  try simp only [thenF, blockF, reduceIte]
  refine Post_r Tryz.results173 (.tmp rfl .nil) ?_
  try simp only [ev_tmp, ev_const, upd_ap, Nat.reduceLT, Nat.reduceEqDiff, reduceIte]
  exact ⟨by trivial, hs.fm⟩
end Go.Proofs.YtkbldndbofbkcaaGreatDoor
/- slices.SortFunc at changes, up to twelve; view.sorted, Writes, Reads. -/
namespace Go.Proofs.YtkbldndbofbkcaaGreatDoor
open Go Go.RowKit
attribute [local irreducible] WL CW DW Ret RW
theorem CV_cons (x : Ch) (L : Chs) : CV (x :: L) = chV x.1 x.2 ++ CV L := rfl
theorem CV_app (A B : Chs) : CV (A ++ B) = CV A ++ CV B := by simp [CV]
theorem CV_len (L : Chs) : (CV L).length = L.length * 7 := by
  induction L with
  | nil => rfl
  | cons x L ih => rw [CV_cons, List.length_append, ih, chV_length, List.length_cons, Nat.add_mul]; omega
theorem CV_split {L : Chs} {j : Nat} (h : j < L.length) : CV L = CV (L.take j) ++ (chV L[j].1 L[j].2 ++ CV (L.drop (j + 1))) := by
  have e : L = L.take j ++ L[j] :: L.drop (j + 1) := by rw [← List.drop_eq_getElem_cons h, List.take_append_drop]
  have e2 := congrArg CV e
  rw [CV_app, CV_cons] at e2
  exact e2
theorem subl_CV {L : Chs} {j : Nat} (h : j < L.length) (zs : List Value) : subl (CV L ++ zs) (j * 7) 7 = chV L[j].1 L[j].2 := by
  rw [subl_eq, CV_split h, List.append_assoc, List.append_assoc]
  have hl : (CV (L.take j)).length = j * 7 := by rw [CV_len, List.length_take, Nat.min_eq_left (by omega)]
  rw [← hl, List.drop_left, List.take_append_of_le_length (by rw [chV_length]; omega), List.take_of_length_le (by rw [chV_length]; omega)]
theorem spl_CV {L : Chs} {j : Nat} (h : j < L.length) (x : Ch) (zs : List Value) : spl (CV L ++ zs) (j * 7) (chV x.1 x.2) = CV (L.set j x) ++ zs := by
  have hl : (CV (L.take j)).length = j * 7 := by rw [CV_len, List.length_take, Nat.min_eq_left (by omega)]
  rw [CV_split h, List.append_assoc, List.append_assoc, ← hl, spl_at _ _ _ (by rw [List.length_append, chV_length, chV_length]; omega), List.set_eq_take_append_cons_drop, if_pos h, CV_app, CV_cons, chV_length]
  have e : (chV L[j].1 L[j].2 ++ (CV (L.drop (j + 1)) ++ zs)).drop 7 = CV (L.drop (j + 1)) ++ zs := by
    have := List.drop_left (l₁ := chV L[j].1 L[j].2) (l₂ := CV (L.drop (j + 1)) ++ zs)
    rwa [chV_length] at this
  rw [e]; simp
section
variable {P : Program} {N : Nat} {f : Fr} {w : World} {Hc : List Ent} {d g j n : Nat} {A T T' : TypeId} {p : String} {aft : Array Edge} {x : Operand} {L : Chs} {zs : List Value} {q : Bool} {fr : Nat × Nat}
theorem X_ldCh [hA : AgE P A true] [hn : SzE P A 7] (hc : Hold Hc w) [hm : InB g Hc q (.cells (CV L ++ zs).toArray T' fr)] (h : j < L.length) (hx : ev N f x = .pointer (some ⟨g, 0 + j * 7, none⟩)) :
    Ex P N f w ⟨some d, .load A x, T, p, aft, none⟩ (encC L[j]) w := by
  have hb : w.heap[g]? = some (.cells (CV L ++ zs).toArray T' fr) := hc _ hm.h
  refine X_loadAc (vl := chV L[j].1 L[j].2) hx (chV_length _ _) (fun i u hi => ?_)
  rw [cell_of_blk hb]
  have hi7 : i < 7 := by have := (List.getElem?_eq_some_iff.1 hi).1; rwa [chV_length] at this
  rw [← subl_CV h zs, subl_eq, List.getElem?_take] at hi
  rw [if_pos hi7, List.getElem?_drop] at hi
  rw [← hi]; congr 1; omega
end
/-! ### in order -/
def RcL (x y : Ch) : Prop := ocmp x.1 y.1 ≤ 0
def SP (i : Nat) (L : Chs) : Prop := ∀ p q (_ : p < q) (_ : q < i) (hl : q < L.length), RcL (L[p]'(by omega)) L[q]
def QS (i j : Nat) (L : Chs) : Prop := (∀ p q (_ : p < q) (_ : q ≤ i) (hl : q < L.length), p ≠ j → q ≠ j → RcL (L[p]'(by omega)) L[q]) ∧ (∀ q (_ : j < q) (_ : q ≤ i) (hl : q < L.length), RcL (L[j]'(by omega)) L[q])
def swp (j : Nat) (L : Chs) (h : j < L.length) : Chs := (L.set j (L[j - 1]'(by omega))).set (j - 1) L[j]
theorem swp_get {j : Nat} {L : Chs} (h : j < L.length) {k : Nat} (hk : k < (swp j L h).length) : (swp j L h)[k] = if j - 1 = k then L[j] else if j = k then L[j - 1]'(by omega) else L[k]'(by unfold swp at hk; simpa using hk) := by
  simp only [swp, List.getElem_set]
theorem swp_len {j : Nat} {L : Chs} (h : j < L.length) : (swp j L h).length = L.length := by unfold swp; simp
theorem swp_perm {j : Nat} {L : Chs} (h : j < L.length) (h0 : 0 < j) : (swp j L h).Perm L := by
  obtain ⟨i, rfl⟩ : ∃ i, j = i + 1 := ⟨j - 1, by omega⟩
  have e1 : L = L.take i ++ (L[i]'(by omega)) :: L[i + 1] :: L.drop (i + 2) := by
    rw [← List.drop_eq_getElem_cons h, ← List.drop_eq_getElem_cons (show i < L.length by omega), List.take_append_drop]
  have e2 : swp (i + 1) L h = L.take i ++ L[i + 1] :: (L[i]'(by omega)) :: L.drop (i + 2) := by
    apply List.ext_getElem
    · rw [swp_len]; simp; omega
    · intro k h1 h2
      rw [swp_get]
      simp only [Nat.add_sub_cancel]
      rw [List.getElem_append]
      simp only [List.length_take, Nat.min_eq_left (show i ≤ L.length by omega)]
      by_cases q1 : k < i
      · rw [dif_pos q1, List.getElem_take, if_neg (by omega), if_neg (by omega)]
      · rw [dif_neg q1]
        by_cases q2 : k = i
        · subst q2; simp
        · by_cases q3 : k = i + 1
          · subst q3; simp
          · obtain ⟨m, rfl⟩ : ∃ m, k = i + 2 + m := ⟨k - (i + 2), by omega⟩
            have e : i + 2 + m - i = m + 2 := by omega
            simp only [e, List.getElem_cons_succ, List.getElem_drop]
            rw [if_neg (by omega), if_neg (by omega)]
  rw [e2]
  exact (List.Perm.append_left _ (List.Perm.swap _ _ _)).trans (by rw [← e1])
theorem SP_1 (L : Chs) : SP 1 L := fun p q h1 h2 => by omega
theorem QS_start {i : Nat} {L : Chs} (h : SP i L) : QS i i L := ⟨fun p q h1 h2 hl h3 h4 => h p q h1 (by omega) hl, fun q h1 h2 => by omega⟩
theorem QS_swp {i j : Nat} {L : Chs} (hQ : QS i j L) (h : j < L.length) (h0 : 0 < j) (hji : j ≤ i) (hc : ocmp L[j].1 (L[j - 1]'(by omega)).1 < 0) : QS i (j - 1) (swp j L h) := by
  obtain ⟨h1, h2⟩ := hQ
  have hlen := swp_len h
  refine ⟨fun p q a b hl c d => ?_, fun q a b hl => ?_⟩
  · rw [hlen] at hl
    rw [swp_get h, swp_get h, if_neg (by omega), if_neg (show ¬ j - 1 = q by omega)]
    by_cases e1 : j = p
    · rw [if_pos e1, if_neg (by omega)]
      exact h1 (j - 1) q (by omega) b hl (by omega) (by omega)
    · rw [if_neg e1]
      by_cases e2 : j = q
      · rw [if_pos e2]
        exact h1 p (j - 1) (by omega) (by omega) (by omega) (by omega) (by omega)
      · rw [if_neg e2]
        exact h1 p q a b hl (fun z => e1 z.symm) (fun z => e2 z.symm)
  · rw [hlen] at hl
    rw [swp_get h, swp_get h, if_pos rfl, if_neg (show ¬ j - 1 = q by omega)]
    by_cases e2 : j = q
    · rw [if_pos e2]
      show ocmp _ _ ≤ 0
      omega
    · rw [if_neg e2]
      exact h2 q (by omega) b hl
theorem QS_end0 {i : Nat} {L : Chs} (hQ : QS i 0 L) : SP (i + 1) L := fun p q a b hl => by
  by_cases e : p = 0
  · subst e; exact hQ.2 q a (by omega) hl
  · exact hQ.1 p q a (by omega) hl e (by omega)
theorem oc_le_tr {a b d : ONm} (ha : Dn a) (hb : Dn b) (hd : Dn d) (h : ocmp a b ≤ 0) (k : ocmp b d ≤ 0) : ocmp a d ≤ 0 := by
  rcases Int.lt_or_eq_of_le h with q | q
  · rcases Int.lt_or_eq_of_le k with z | z
    · have := oc_tr ha hb hd q z; omega
    · have := oc_eq hb hd z; subst this; omega
  · have := oc_eq ha hb q; subst this; exact k
theorem oc_nlt {a b : ONm} (ha : Dn a) (hb : Dn b) (h : ¬ ocmp a b < 0) : ocmp b a ≤ 0 := by
  by_cases q : ocmp b a ≤ 0
  · exact q
  · exact absurd ((oc_sym ha hb).2 (by omega)) h
theorem QS_end {i j : Nat} {L : Chs} (hD : ∀ x ∈ L, Dn x.1) (hQ : QS i j L) (h : j < L.length) (h0 : 0 < j) (hc : ¬ ocmp L[j].1 (L[j - 1]'(by omega)).1 < 0) : SP (i + 1) L := fun p q a b hl => by
  have hj : RcL (L[j - 1]'(by omega)) L[j] := oc_nlt (hD _ (List.getElem_mem _)) (hD _ (List.getElem_mem _)) hc
  by_cases e1 : p = j
  · subst e1; exact hQ.2 q a (by omega) hl
  · by_cases e2 : q = j
    · subst e2
      by_cases e3 : p = q - 1
      · subst e3; exact hj
      · exact oc_le_tr (hD _ (List.getElem_mem _)) (hD _ (List.getElem_mem _)) (hD _ (List.getElem_mem _)) (hQ.1 p (q - 1) (by omega) (by omega) (by omega) e1 (by omega)) hj
    · exact hQ.1 p q a (by omega) hl e1 e2
/-- The row laid open, with what its room is. -/
theorem St.openC {w0 w : World} {M : List Nat} {H : List Ent} (h : St w0 M w H) {a : Option Addr} {n cap E size : Nat} {xs : List Value} {F : Ent → List Ent} [hr : RpR a n cap H E size xs F] (hn : 0 < n) :
    ∃ g zs, a = some ⟨g, 0, none⟩ ∧ St w0 M w (F (eB g true (Blk E (xs ++ zs)))) ∧ (xs ++ zs).length = cap * size ∧ n ≤ cap ∧ cap ≤ 9223372036854775807 := by
  have h1 := h.row (hr.h (eB 0 true (.map #[] 0))).mem
  rcases h1.2 with ⟨h2, h3⟩ | ⟨g, c, cur, hv, _, hg, h4, hcm, h5, h6⟩
  · injection h2 with h2; omega
  · injection hv with e1 e2 e3
    subst e3
    have e : xs ++ cur.toList.drop (n * size) = cur.toList := by rw [← h6, List.take_append_drop]
    refine ⟨g, cur.toList.drop (n * size), e1, ?_, by rw [e]; simpa using h5, h4, by unfold maxLen at hcm; omega⟩
    rw [e]
    refine h.rep (hr.h _) rfl (Fm.refl _ _) ?_ ?_
    · show w.heap[g]? = _; rw [hg]
    · intro b hb; simp [eB] at hb; subst hb; left; subst e1; simp [eR, Value.ownBlock]
theorem sub1' {i : Nat} (h : (0 : Int) < i) (h2 : i ≤ 4611686018427387904) : IntKind.i64.wrap ((i : Int) - 1) = ((i - 1 : Nat) : Int) := by
  rw [wrap_in (by omega) (by omega)]; omega
abbrev kCmp : FuncId := 173
set_option maxHeartbeats 1000000 in
theorem ins_ok (a : Option Addr) (n cap : Nat) (L : Chs) (w0 : World) (hE : (eR (.slice a n cap) 117 7 n (CV L)).holds w0) (hn : n = L.length) (h12 : n ≤ 100000) (hD : ∀ x ∈ L, Dn x.1 ∧ x.1.owner.size ≤ 9223372036854775807) :
    Ret Tryz.prog 213 #[.slice a n cap, .int .i64 0, .int .i64 n, .func (.func kCmp) #[] #[]] w0 fun _ w' => ∃ L' : Chs, L'.Perm L ∧ SP n L' ∧ Turned (eR (.slice a n cap) 117 7 n (CV L)) (eR (.slice a n cap) 117 7 n (CV L')) w0 w' := by
  have hs := St.ent hE
  rcases Nat.eq_zero_or_pos n with h0 | hpos
  · have hL : L = [] := List.eq_nil_of_length_eq_zero (by omega)
    refine Ret_enter Tryz.func213 rfl Tryz.ntmps213 (by simp) ?_
    refine CW_seq (fun K1 hK1 => ?_)
    refine CW_region ?_
    refine mvp (.int _ _) rfl ?_
    first | refine addI rfl rfl (by omega) ?_ | refine addW rfl rfl ?_
    refine asp (.int _ _) rfl ?_
    refine WL_nil ?_
    refine hK1 _ _ ?_
    refine CW_block ?_
    refine CW_loop (fun k f w' => k = 0 ∧ f 2 = .int .i64 n ∧ f 8 = .int .i64 1 ∧ St w0 (eR (.slice a n cap) 117 7 n (CV L)).fp w' [eR (.slice a n cap) 117 7 n (CV L)]) 0 ?_ ?_
    · exact ⟨rfl, rfl, rfl, hs⟩
    · rintro k f w1 ⟨rfl, e2, e8, hs⟩
      refine CW_kn (i := 2) e2 (CW_kn (i := 8) e8 ?_)
      refine CW_seq (fun K2 hK2 => ?_)
      refine CW_seq (fun K3 hK3 => ?_)
      refine CW_region ?_
      refine mvp (.int _ _) rfl ?_
      refine mvp (.int _ _) rfl ?_
      refine lssW rfl rfl ?_
      refine WL_nil ?_
      refine hK3 _ _ ?_
      refine CW_condF rfl ((by simp; omega)) ?_
      refine CW_exit ?_
      try simp only [thenF, blockF, reduceIte]
      refine Post_n Tryz.results213 .nil ?_
      try simp only [ev_tmp, ev_const, upd_ap, Nat.reduceLT, Nat.reduceEqDiff, reduceIte]
      exact ⟨L, .refl _, fun p q h1 h2 hl => by omega, hs.turned _ rfl⟩
  · obtain ⟨g, zs, rfl, hs, hlen, hnc, hcm⟩ := hs.openC (a := a) hpos
    refine Ret_enter Tryz.func213 rfl Tryz.ntmps213 (by simp) ?_
    refine CW_seq (fun K1 hK1 => ?_)
    refine CW_region ?_
    refine mvp (.int _ _) rfl ?_
    first | refine addI rfl rfl (by omega) ?_ | refine addW rfl rfl ?_
    refine asp (.int _ _) rfl ?_
    refine WL_nil ?_
    refine hK1 _ _ ?_
    refine CW_block ?_
    refine CW_loop (fun k f w' => ∃ (i : Nat) (L1 : Chs), k = n + 1 - i ∧ 1 ≤ i ∧ i ≤ n + 1 ∧ f 0 = .slice (some ⟨g, 0, none⟩) n cap ∧ f 1 = .int .i64 0 ∧ f 2 = .int .i64 n ∧ f 3 = .func (.func kCmp) #[] #[] ∧ f 8 = .int .i64 i ∧ L1.Perm L ∧ SP (min i n) L1 ∧ St w0 (eR (.slice (some ⟨g, 0, none⟩) n cap) 117 7 n (CV L)).fp w' [eB g true (Blk 117 (CV L1 ++ zs))]) n ?_ ?_
    · exact ⟨1, L, by omega, by omega, by omega, rfl, rfl, rfl, rfl, rfl, .refl _, by rw [Nat.min_eq_left (by omega)]; exact SP_1 L, hs⟩
    · rintro k f w1 ⟨i, L1, rfl, hi1, hi, e0, e1, e2, e3, e8, hp, hSP, hs⟩
      refine CW_kn (i := 0) e0 (CW_kn (i := 1) e1 (CW_kn (i := 2) e2 (CW_kn (i := 3) e3 (CW_kn (i := 8) e8 ?_))))
      have hl1 : L1.length = n := by rw [hp.length_eq]; omega
      refine CW_seq (fun K2 hK2 => ?_)
      refine CW_seq (fun K3 hK3 => ?_)
      refine CW_region ?_
      refine mvp (.int _ _) rfl ?_
      refine mvp (.int _ _) rfl ?_
      refine lssW rfl rfl ?_
      refine WL_nil ?_
      refine hK3 _ _ ?_
      refine CW_cond rfl (fun hc14 => ?_) (fun hc14 => ?_)
      · skip
        have hin : i < n := by simpa using hc14
        rw [Nat.min_eq_left (by omega)] at hSP
        refine CW_skip ?_
        refine hK2 _ _ ?_
        refine CW_seq (fun K4 hK4 => ?_)
        refine CW_block ?_
        refine CW_seq (fun K5 hK5 => ?_)
        refine CW_region ?_
        refine mvp (.int _ _) rfl ?_
        refine asp (.int _ _) rfl ?_
        refine WL_nil ?_
        refine hK5 _ _ ?_
        refine CW_block ?_
        refine CW_loop (fun k f w' => ∃ (j : Nat) (L2 : Chs), k = j ∧ j ≤ i ∧ f 0 = .slice (some ⟨g, 0, none⟩) n cap ∧ f 1 = .int .i64 0 ∧ f 2 = .int .i64 n ∧ f 3 = .func (.func kCmp) #[] #[] ∧ f 8 = .int .i64 i ∧ f 9 = .int .i64 j ∧ L2.Perm L ∧ QS i j L2 ∧ St w0 (eR (.slice (some ⟨g, 0, none⟩) n cap) 117 7 n (CV L)).fp w' [eB g true (Blk 117 (CV L2 ++ zs))]) i ?_ ?_
        · exact ⟨i, L1, rfl, Nat.le_refl _, rfl, rfl, rfl, rfl, rfl, rfl, hp, QS_start hSP, hs⟩
        · rintro k f w1 ⟨j, L2, hkj, hji, e0, e1, e2, e3, e8, e9, hp2, hQ, hs⟩
          refine CW_kn (i := 0) e0 (CW_kn (i := 1) e1 (CW_kn (i := 2) e2 (CW_kn (i := 3) e3 (CW_kn (i := 8) e8 (CW_kn (i := 9) e9 ?_)))))
          have hl2 : L2.length = n := by rw [hp2.length_eq]; omega
          have hjl : j < L2.length := by omega
          have hcv := CV_len L2
          have hcvl : (CV L2 ++ zs).length = cap * 7 := by
            rw [List.length_append, CV_len, hl2]
            rw [List.length_append, CV_len] at hlen
            omega
          refine CW_seq (fun K6 hK6 => ?_)
          refine CW_seq (fun K7 hK7 => ?_)
          refine DW_sH hs 999 ?_
          intro w hs _
          refine DW_q hs 0 rfl (by kernel_rfl) (fun w' hw' => X_move (v := (.int _ _)) rfl) ?_
          refine DW_q hs 1 rfl (by kernel_rfl) (fun w' hw' => X_move (v := (.int _ _)) rfl) ?_
          refine DW_q hs 2 rfl (by kernel_rfl) (fun w' hw' => X_gtr rfl rfl) ?_
          refine DW_q hs 3 rfl (by kernel_rfl) (fun w' hw' => X_move (v := (.bool _)) rfl) ?_
          refine DW_b (g := 21) (by decide) rfl (fun hg21 => ?_) (fun hg21 => ?_)
          · skip
            refine DW_qy hs 4 rfl (by kernel_rfl) rfl (by decide) rfl (fun w' hw' => X_move rfl) ?_
            refine DW_qy hs 5 rfl (by kernel_rfl) rfl (by decide) rfl (fun w' hw' => X_move (v := (.slice _ _ _)) rfl) ?_
            refine DW_qy hs 6 rfl (by kernel_rfl) rfl (by decide) rfl (fun w' hw' => X_move (v := (.int _ _)) rfl) ?_
            refine DW_qy hs 7 rfl (by kernel_rfl) rfl (by decide) rfl (fun w' hw' => X_indexAddr rfl rfl (by omega) (by omega) rfl) ?_
            refine DW_qy hs 8 rfl (by kernel_rfl) rfl (by decide) rfl (fun w' hw' => X_ldCh hw' hjl rfl) ?_
            refine DW_qy hs 9 rfl (by kernel_rfl) rfl (by decide) rfl (fun w' hw' => X_move (v := (.slice _ _ _)) rfl) ?_
            refine DW_qy hs 10 rfl (by kernel_rfl) rfl (by decide) rfl (fun w' hw' => X_move (v := (.int _ _)) rfl) ?_
            refine DW_qy hs 11 rfl (by kernel_rfl) rfl (by decide) rfl (fun w' hw' => X_subE (r := ((j - 1 : Nat) : Int)) rfl rfl (sub1' (by simpa using hg21) (by omega))) ?_
            refine DW_qy hs 12 rfl (by kernel_rfl) rfl (by decide) rfl (fun w' hw' => X_indexAddr rfl rfl (by omega) (by omega) rfl) ?_
            refine DW_qy hs 13 rfl (by kernel_rfl) rfl (by decide) rfl (fun w' hw' => X_ldCh (L := L2) (j := j - 1) hw' (by omega) rfl) ?_
            refine DW_l 14 rfl (by kernel_rfl) ?_
            refine WL_gy (g := 21) rfl (by decide) rfl ?_
            refine clv rfl (cmpC_ok L2[j] (L2[j - 1]'(by omega)) _ (hD _ (hp2.mem_iff.1 (List.getElem_mem _))).2 (hD _ (hp2.mem_iff.1 (List.getElem_mem _))).2) ?_
            rintro _ w ⟨rfl, hf⟩
            replace hs := hs.call hf
            refine WL_nil ?_
            refine ⟨.inr hs.hold, ?_⟩
            refine DW_qy hs 15 rfl (by kernel_rfl) rfl (by decide) rfl (fun w' hw' => X_lss rfl rfl) ?_
            refine DW_q hs 16 rfl (by kernel_rfl) (fun w' hw' => X_pickT rfl rfl) ?_
            refine DW_e (by kernel_rfl) ?_
            refine hK7 _ _ ?_
            refine CW_cond rfl (fun hc34 => ?_) (fun hc34 => ?_)
            · skip
              have h21 : 0 < j := by have : (0 : Int) < j := by simpa using hg21
                                     omega
              have h34 : ocmp (L2[j]'(by omega)).1 (L2[j - 1]'(by omega)).1 < 0 := by simpa using hc34
              refine CW_skip ?_
              refine hK6 _ _ ?_
              refine CW_seq (fun K8 hK8 => ?_)
              refine CW_block ?_
              refine DW_sH hs 15 ?_
              intro w hs _
              refine DW_q hs 0 rfl (by kernel_rfl) (fun w' hw' => X_move (v := (.slice _ _ _)) rfl) ?_
              refine DW_q hs 1 rfl (by kernel_rfl) (fun w' hw' => X_move (v := (.int _ _)) rfl) ?_
              refine DW_q hs 5 rfl (by kernel_rfl) (fun w' hw' => X_move (v := (.slice _ _ _)) rfl) ?_
              refine DW_q hs 6 rfl (by kernel_rfl) (fun w' hw' => X_move (v := (.int _ _)) rfl) ?_
              refine DW_q hs 7 rfl (by kernel_rfl) (fun w' hw' => X_subE (r := ((j - 1 : Nat) : Int)) rfl rfl (sub1' (by omega) (by omega))) ?_
              refine DW_q hs 8 rfl (by kernel_rfl) (fun w' hw' => X_indexAddr rfl rfl (by omega) (by omega) rfl) ?_
              refine DW_q hs 9 rfl (by kernel_rfl) (fun w' hw' => X_ldCh (L := L2) (j := j - 1) hw' (by omega) rfl) ?_
              refine DW_q hs 10 rfl (by kernel_rfl) (fun w' hw' => X_move (v := (.slice _ _ _)) rfl) ?_
              refine DW_q hs 11 rfl (by kernel_rfl) (fun w' hw' => X_move (v := (.int _ _)) rfl) ?_
              refine DW_q hs 12 rfl (by kernel_rfl) (fun w' hw' => X_indexAddr rfl rfl (by omega) (by omega) rfl) ?_
              refine DW_q hs 13 rfl (by kernel_rfl) (fun w' hw' => X_ldCh hw' hjl rfl) ?_
              refine DW_q hs 14 rfl (by kernel_rfl) (fun w' hw' => X_indexAddr rfl rfl (by omega) (by omega) rfl) ?_
              refine DW_qp hs 2 rfl (by kernel_rfl) (fun w' => X_move (v := (.slice _ _ _)) rfl) ?_
              refine DW_qp hs 3 rfl (by kernel_rfl) (fun w' => X_move (v := (.int _ _)) rfl) ?_
              refine DW_qp hs 4 rfl (by kernel_rfl) (fun w' => X_subE (r := ((j - 1 : Nat) : Int)) rfl rfl (sub1' (by omega) (by omega))) ?_
              refine DW_l 15 rfl (by kernel_rfl) ?_
              refine sto (encC (L2[j - 1]'(by omega))) (vl := chV (L2[j - 1]'(by omega)).1 (L2[j - 1]'(by omega)).2) hs rfl rfl rfl rfl (by rw [chV_length, hcvl]; omega) rfl ?_
              intro w hs _
              rw [Int.toNat_natCast, Nat.zero_add, spl_CV hjl] at hs
              refine WL_nil ?_
              refine ⟨.inl rfl, ?_⟩
              refine DW_lx 16 rfl (by kernel_rfl) (by kernel_rfl) ?_
              refine iad rfl rfl (by omega) ?_
              refine WL_nil ?_
              refine DW_lx 17 rfl (by kernel_rfl) (by kernel_rfl) ?_
              refine sto (encC L2[j]) (vl := chV L2[j].1 L2[j].2) hs rfl rfl rfl rfl (by rw [chV_length, List.length_append, CV_len, List.length_set, ← CV_len, ← List.length_append, hcvl]; omega) rfl ?_
              intro w hs _
              rw [Int.toNat_natCast, Nat.zero_add, spl_CV (by rw [List.length_set]; omega)] at hs
              have hs0 := hs
              clear hs
              have hs : St w0 (eR (.slice (some ⟨g, 0, none⟩) n cap) 117 7 n (CV L)).fp w [eB g true (Blk 117 (CV (swp j L2 hjl) ++ zs))] := hs0
              refine WL_nil ?_
              refine DW_e (by kernel_rfl) ?_
              refine hK8 _ _ ?_
              refine CW_region ?_
              refine mvp (.int _ _) rfl ?_
              refine WL_v (X_subE (r := ((j - 1 : Nat) : Int)) rfl rfl (sub1' (by omega) (by omega))) ?_
              refine asp (.int _ _) rfl ?_
              refine WL_nil ?_
              skip
              refine ⟨j - 1, by omega, j - 1, swp j L2 hjl, rfl, by omega, rfl, rfl, rfl, rfl, rfl, rfl, (swp_perm hjl h21).trans hp2, QS_swp hQ hjl h21 hji h34, hs⟩
            · skip
              refine CW_exit ?_
              refine hK4 _ _ ?_
              refine CW_region ?_
              refine mvp (.int _ _) rfl ?_
              first | refine addI rfl rfl (by omega) ?_ | refine addW rfl rfl ?_
              refine asp (.int _ _) rfl ?_
              refine WL_nil ?_
              skip
              have hfin : SP (i + 1) L2 := by
                first
                  | (have h21 : j = 0 := by have : ¬ (0 : Int) < j := by simpa using hg21
                                            omega
                     subst h21
                     exact QS_end0 hQ)
                  | (have h21 : 0 < j := by have : (0 : Int) < j := by simpa using hg21
                                            omega
                     have h34 : ¬ ocmp (L2[j]'(by omega)).1 (L2[j - 1]'(by omega)).1 < 0 := by simpa using hc34
                     exact QS_end (fun x hx => (hD x (hp2.mem_iff.1 hx)).1) hQ (by omega) h21 h34)
              exact ⟨n + 1 - (i + 1), by omega, i + 1, L2, rfl, by omega, by omega, rfl, rfl, rfl, rfl, rfl, hp2, by rw [Nat.min_eq_left (by omega)]; exact hfin, hs⟩
          · skip
            refine DW_qn hs 4 rfl (by kernel_rfl) rfl (by decide) rfl ?_
            refine DW_qn hs 5 rfl (by kernel_rfl) rfl (by decide) rfl ?_
            refine DW_qn hs 6 rfl (by kernel_rfl) rfl (by decide) rfl ?_
            refine DW_qn hs 7 rfl (by kernel_rfl) rfl (by decide) rfl ?_
            refine DW_qn hs 8 rfl (by kernel_rfl) rfl (by decide) rfl ?_
            refine DW_qn hs 9 rfl (by kernel_rfl) rfl (by decide) rfl ?_
            refine DW_qn hs 10 rfl (by kernel_rfl) rfl (by decide) rfl ?_
            refine DW_qn hs 11 rfl (by kernel_rfl) rfl (by decide) rfl ?_
            refine DW_qn hs 12 rfl (by kernel_rfl) rfl (by decide) rfl ?_
            refine DW_qn hs 13 rfl (by kernel_rfl) rfl (by decide) rfl ?_
            refine DW_l 14 rfl (by kernel_rfl) ?_
            refine WL_gn (g := 21) rfl (by decide) rfl ?_
            refine WL_nil ?_
            refine ⟨.inr hs.hold, ?_⟩
            refine DW_qn hs 15 rfl (by kernel_rfl) rfl (by decide) rfl ?_
            refine DW_q hs 16 rfl (by kernel_rfl) (fun w' hw' => X_pickF rfl rfl) ?_
            refine DW_e (by kernel_rfl) ?_
            refine hK7 _ _ ?_
            refine CW_condF rfl rfl ?_
            refine CW_exit ?_
            refine hK4 _ _ ?_
            refine CW_region ?_
            refine mvp (.int _ _) rfl ?_
            first | refine addI rfl rfl (by omega) ?_ | refine addW rfl rfl ?_
            refine asp (.int _ _) rfl ?_
            refine WL_nil ?_
            skip
            have hfin : SP (i + 1) L2 := by
              first
                | (have h21 : j = 0 := by have : ¬ (0 : Int) < j := by simpa using hg21
                                          omega
                   subst h21
                   exact QS_end0 hQ)
                | (have h21 : 0 < j := by have : (0 : Int) < j := by simpa using hg21
                                          omega
                   have h34 : ¬ ocmp (L2[j]'(by omega)).1 (L2[j - 1]'(by omega)).1 < 0 := by simpa using hc34
                   exact QS_end (fun x hx => (hD x (hp2.mem_iff.1 hx)).1) hQ (by omega) h21 h34)
            exact ⟨n + 1 - (i + 1), by omega, i + 1, L2, rfl, by omega, by omega, rfl, rfl, rfl, rfl, rfl, hp2, by rw [Nat.min_eq_left (by omega)]; exact hfin, hs⟩
      · skip
        refine CW_exit ?_
        try simp only [thenF, blockF, reduceIte]
        refine Post_n Tryz.results213 .nil ?_
        try simp only [ev_tmp, ev_const, upd_ap, Nat.reduceLT, Nat.reduceEqDiff, reduceIte]
        have hin : n ≤ i := by simp at hc14; omega
        rw [Nat.min_eq_right hin] at hSP
        have hl1' : (CV L1 ++ zs).take (n * 7) = CV L1 := by rw [List.take_append_of_le_length (by rw [CV_len]; omega), List.take_of_length_le (by rw [CV_len]; omega)]
        have hs2 : St w0 (eR (.slice (some ⟨g, 0, none⟩) n cap) 117 7 n (CV L)).fp w1 [eR (.slice (some ⟨g, 0, none⟩) n cap) 117 7 n (CV L1)] := by
          have := hs.toR (n := n) (cap := cap) (size := 7) .here (by rw [List.length_append, CV_len, hl1]; rw [List.length_append, CV_len] at hlen; omega) hnc hcm
          rwa [hl1'] at this
        exact ⟨L1, hp, hSP, hs2.turned _ rfl⟩
end Go.Proofs.YtkbldndbofbkcaaGreatDoor
/- slices.SortFunc, slices.SortedFunc at changes, up to twelve; view.sorted, Writes, Reads. -/
namespace Go.Proofs.YtkbldndbofbkcaaGreatDoor
open Go Go.RowKit
attribute [local irreducible] WL CW DW Ret RW
theorem Len64_ok (u : Nat) (w0 : World) (hu : u ≤ 255) : Ret Tryz.prog 222 #[.int .u64 u] w0 fun v w' => (∃ k : Int, v = .int .i64 k) ∧ Fm [] w0 w' := by
  have hs := St.init w0 []
  have hw : IntKind.u8.wrap (u : Int) = (u : Int) := by simp [IntKind.wrap, IntKind.bits, IntKind.signed]; omega
  refine Ret_enter Tryz.func222 rfl Tryz.ntmps222 (by simp) ?_
  refine CW_seq (fun K1 hK1 => ?_)
  refine CW_region ?_
  refine asp (.int _ _) rfl ?_
  refine WL_nil ?_
  refine hK1 _ _ ?_
  refine CW_seq (fun K2 hK2 => ?_)
  refine CW_seq (fun K3 hK3 => ?_)
  refine CW_region ?_
  refine mvp (.int _ _) rfl ?_
  refine geqW rfl rfl ?_
  refine WL_nil ?_
  refine hK3 _ _ ?_
  refine CW_condF rfl ((by simp; omega)) ?_
  refine CW_skip ?_
  refine hK2 _ _ ?_
  refine CW_seq (fun K4 hK4 => ?_)
  refine CW_seq (fun K5 hK5 => ?_)
  refine CW_region ?_
  refine mvp (.int _ _) rfl ?_
  refine geqW rfl rfl ?_
  refine WL_nil ?_
  refine hK5 _ _ ?_
  refine CW_condF rfl ((by simp; omega)) ?_
  refine CW_skip ?_
  refine hK4 _ _ ?_
  refine CW_seq (fun K6 hK6 => ?_)
  refine CW_seq (fun K7 hK7 => ?_)
  refine CW_region ?_
  refine mvp (.int _ _) rfl ?_
  refine geqW rfl rfl ?_
  refine WL_nil ?_
  refine hK7 _ _ ?_
  refine CW_condF rfl ((by simp; omega)) ?_
  refine CW_skip ?_
  refine hK6 _ _ ?_
  refine CW_seq (fun K8 hK8 => ?_)
  refine CW_region ?_
  refine mvp (.int _ _) rfl ?_
  refine mvp (.int _ _) rfl ?_
  refine cviW rfl ?_
  rw [hw]
  refine ixS rfl rfl ?_ ?_
  · exact ⟨by omega, Int.lt_of_lt_of_le (show (u : Int) < 256 by omega) (of_decide_eq_true (by kernel_rfl))⟩
  first | refine cviI rfl (by omega) ?_ | refine cviW rfl ?_
  first | refine addI rfl rfl (by omega) ?_ | refine addW rfl rfl ?_
  refine asp (.int _ _) rfl ?_
  refine WL_nil ?_
  refine hK8 _ _ ?_
  refine CW_ret ?_
  repeat (first | (with_reducible apply thenF_ret) | (with_reducible apply blockF_ret))
  try simp only [thenF, blockF, reduceIte]
  refine Post_r Tryz.results222 (.tmp rfl .nil) ?_
  try simp only [ev_tmp, ev_const, upd_ap, Nat.reduceLT, Nat.reduceEqDiff, reduceIte]
  exact ⟨⟨_, rfl⟩, hs.fm⟩
theorem bLen_ok (u : Nat) (w0 : World) (hu : u ≤ 255) : Ret Tryz.prog 207 #[.int .u64 u] w0 fun v w' => (∃ k : Int, v = .int .i64 k) ∧ Fm [] w0 w' := by
  have hs := St.init w0 []
  refine Ret_enter Tryz.func207 rfl Tryz.ntmps207 (by simp) ?_
  refine CW_seq (fun K1 hK1 => ?_)
  refine CW_region ?_
  refine asp (.int _ _) rfl ?_
  refine WL_nil ?_
  refine hK1 _ _ ?_
  refine CW_seq (fun K2 hK2 => ?_)
  refine CW_condF rfl rfl ?_
  refine CW_skip ?_
  refine hK2 _ _ ?_
  refine CW_seq (fun K3 hK3 => ?_)
  refine CW_region ?_
  refine mvp (.int _ _) rfl ?_
  refine cll (Len64_ok u _ hu) ?_
  rintro _ w ⟨⟨k, rfl⟩, hf⟩
  replace hs := hs.call hf
  refine asp (.int _ _) rfl ?_
  refine WL_nil ?_
  refine hK3 _ _ ?_
  refine CW_ret ?_
  repeat (first | (with_reducible apply thenF_ret) | (with_reducible apply blockF_ret))
  try simp only [thenF, blockF, reduceIte]
  refine Post_r Tryz.results207 (.tmp rfl .nil) ?_
  try simp only [ev_tmp, ev_const, upd_ap, Nat.reduceLT, Nat.reduceEqDiff, reduceIte]
  exact ⟨⟨_, rfl⟩, hs.fm⟩
theorem pdq_ok (a : Option Addr) (n cap : Nat) (k : Int) (L : Chs) (w0 : World) (hE : (eR (.slice a n cap) 117 7 n (CV L)).holds w0) (hn : n = L.length) (h12 : n ≤ 12) (hD : ∀ x ∈ L, Dn x.1 ∧ x.1.owner.size ≤ 9223372036854775807) :
    Ret Tryz.prog 206 #[.slice a n cap, .int .i64 0, .int .i64 n, .int .i64 k, .func (.func kCmp) #[] #[]] w0 fun _ w' => ∃ L' : Chs, L'.Perm L ∧ SP n L' ∧ Turned (eR (.slice a n cap) 117 7 n (CV L)) (eR (.slice a n cap) 117 7 n (CV L')) w0 w' := by
  have hs := St.ent hE
  refine Ret_enter Tryz.func206 rfl Tryz.ntmps206 (by simp) ?_
  refine CW_seq (fun K1 hK1 => ?_)
  refine CW_region ?_
  refine asp (.bool _) rfl ?_
  refine WL_nil ?_
  refine hK1 _ _ ?_
  refine CW_seq (fun K2 hK2 => ?_)
  refine CW_region ?_
  refine asp (.bool _) rfl ?_
  refine WL_nil ?_
  refine hK2 _ _ ?_
  refine CW_block ?_
  refine CW_loop (fun kk f w' => kk = 0 ∧ f 0 = .slice a n cap ∧ f 1 = .int .i64 0 ∧ f 2 = .int .i64 n ∧ f 4 = .func (.func kCmp) #[] #[] ∧ St w0 (eR (.slice a n cap) 117 7 n (CV L)).fp w' [eR (.slice a n cap) 117 7 n (CV L)]) 0 ?_ ?_
  · exact ⟨rfl, rfl, rfl, rfl, rfl, hs⟩
  · rintro kk f w1 ⟨rfl, e0, e1, e2, e4, hs⟩
    refine CW_kn (i := 0) e0 (CW_kn (i := 1) e1 (CW_kn (i := 2) e2 (CW_kn (i := 4) e4 ?_)))
    refine CW_block ?_
    refine CW_seq (fun K3 hK3 => ?_)
    refine CW_region ?_
    refine mvp (.int _ _) rfl ?_
    refine mvp (.int _ _) rfl ?_
    first | refine subI rfl rfl (by omega) ?_ | refine subW rfl rfl ?_
    refine asp (.int _ _) rfl ?_
    refine WL_nil ?_
    refine hK3 _ _ ?_
    refine CW_seq (fun K4 hK4 => ?_)
    refine CW_seq (fun K5 hK5 => ?_)
    refine CW_region ?_
    refine mvp (.int _ _) rfl ?_
    refine leqW rfl rfl ?_
    refine WL_nil ?_
    refine hK5 _ _ ?_
    refine CW_condT rfl ((by simp; omega)) ?_
    refine CW_seq (fun K6 hK6 => ?_)
    refine CW_region ?_
    refine mvp (.slice _ _ _) rfl ?_
    refine mvp (.int _ _) rfl ?_
    refine mvp (.int _ _) rfl ?_
    apply mv
    refine cll (ins_ok a n cap L _ (hs.he _) hn (by omega) hD) ?_
    rintro _ w ⟨L', hp, hsp, ht⟩
    replace hs := hs.turnE rfl ht
    refine WL_nil ?_
    refine hK6 _ _ ?_
    refine CW_ret ?_
    repeat (first | (with_reducible apply thenF_ret) | (with_reducible apply blockF_ret))
    try simp only [thenF, blockF, reduceIte]
    refine Post_r Tryz.results206 .nil ?_
    try simp only [ev_tmp, ev_const, upd_ap, Nat.reduceLT, Nat.reduceEqDiff, reduceIte]
    exact ⟨L', hp, hsp, hs.turned _ rfl⟩
theorem SortFunc_ok (a : Option Addr) (n cap : Nat) (L : Chs) (w0 : World) (hE : (eR (.slice a n cap) 117 7 n (CV L)).holds w0) (hn : n = L.length) (h12 : n ≤ 12) (hD : ∀ x ∈ L, Dn x.1 ∧ x.1.owner.size ≤ 9223372036854775807) :
    Ret Tryz.prog 194 #[.slice a n cap, .func (.func kCmp) #[] #[]] w0 fun _ w' => ∃ L' : Chs, L'.Perm L ∧ SP n L' ∧ Turned (eR (.slice a n cap) 117 7 n (CV L)) (eR (.slice a n cap) 117 7 n (CV L')) w0 w' := by
  have hs := St.ent hE
  refine Ret_enter Tryz.func194 rfl Tryz.ntmps194 (by simp) ?_
  refine CW_seq (fun K1 hK1 => ?_)
  refine CW_region ?_
  refine mvp (.slice _ _ _) rfl ?_
  refine lenW rfl ?_
  refine asp (.int _ _) rfl ?_
  refine WL_nil ?_
  refine hK1 _ _ ?_
  refine CW_region ?_
  refine mvp (.slice _ _ _) rfl ?_
  refine mvp (.int _ _) rfl ?_
  refine mvp (.int _ _) rfl ?_
  refine cviW rfl ?_
  rw [u64_wrap _ (by omega) (by omega)]
  refine cll (bLen_ok n _ (by omega)) ?_
  rintro _ w ⟨⟨k, rfl⟩, hf⟩
  replace hs := hs.call hf
  apply mv
  refine cll (pdq_ok a n cap k L _ (hs.he _) hn h12 hD) ?_
  rintro _ w ⟨L', hp, hsp, ht⟩
  replace hs := hs.turnE rfl ht
  refine WL_nil ?_
  try simp only [thenF, blockF, reduceIte]
  refine Post_n Tryz.results194 .nil ?_
  try simp only [ev_tmp, ev_const, upd_ap, Nat.reduceLT, Nat.reduceEqDiff, reduceIte]
  exact ⟨L', hp, hsp, hs.turned _ rfl⟩
theorem SortedFunc_ok (g m : Nat) (N : Chs) (es : Array MapEntry) (c : Nat) (w0 : World) (hM : MapIs encN (NV N) es c) (hg : w0.heap[g]? = some (Blk 132 [.map (some m)])) (hm : w0.heap[m]? = some (.map es c)) (hN : N.length ≤ 12) (hD : ∀ x ∈ N, Dn x.1 ∧ x.1.owner.size ≤ 9223372036854775807) :
    Ret Tryz.prog 171 #[.func (.func kVal) #[] #[.pointer (some ⟨g, 0, none⟩)], .func (.func kCmp) #[] #[]] w0 fun v w' =>
      (∃ (L : Chs) (a : Option Addr) (n cap : Nat), v = .slice a n cap ∧ L.Perm N ∧ SP n L ∧ n = L.length ∧ NewR w0 w' 117 7 n (.slice a n cap) (CV L)) ∧ Fm [] w0 w' := by
  have hs := St.init w0 []
  refine Ret_enter Tryz.func171 rfl Tryz.ntmps171 (by simp) ?_
  refine CW_seq (fun K1 hK1 => ?_)
  refine CW_region ?_
  refine asp (.slice _ _ _) rfl ?_
  refine WL_nil ?_
  refine hK1 _ _ ?_
  refine CW_seq (fun K2 hK2 => ?_)
  refine CW_region ?_
  apply mv
  refine cll (Collect_ok g m N es c _ hM (hs.fm.keep hg (by simp)) (hs.fm.keep hm (by simp)) (by omega)) ?_
  rintro _ w ⟨⟨L, a, n, cap, rfl, hp, hn, hnew⟩, hf⟩
  replace hs := hs.callR hf hnew
  have hpl := hp.length_eq
  refine asp (.slice _ _ _) rfl ?_
  refine WL_nil ?_
  refine hK2 _ _ ?_
  refine CW_seq (fun K3 hK3 => ?_)
  refine CW_region ?_
  refine mvp (.slice _ _ _) rfl ?_
  apply mv
  refine cll (SortFunc_ok a n cap L _ (hs.he _) hn (by omega) (fun x hx => hD x (hp.mem_iff.1 hx))) ?_
  rintro _ w ⟨L2, hp2, hsp, ht⟩
  replace hs := hs.turnE rfl ht
  refine WL_nil ?_
  refine hK3 _ _ ?_
  refine CW_seq (fun K4 hK4 => ?_)
  refine CW_region ?_
  refine mvp (.slice _ _ _) rfl ?_
  refine asp (.slice _ _ _) rfl ?_
  refine WL_nil ?_
  refine hK4 _ _ ?_
  refine CW_ret ?_
  repeat (first | (with_reducible apply thenF_ret) | (with_reducible apply blockF_ret))
  try simp only [thenF, blockF, reduceIte]
  refine Post_r Tryz.results171 (.tmp rfl .nil) ?_
  try simp only [ev_tmp, ev_const, upd_ap, Nat.reduceLT, Nat.reduceEqDiff, reduceIte]
  exact ⟨⟨L2, a, n, cap, rfl, hp2.trans hp, hsp, by rw [hp2.length_eq]; exact hn, hs.newR⟩, hs.fm⟩
/-- The changes of a map in the order of names. -/
theorem sorted_ok (m : Nat) (N : Chs) (w0 : World) (hE : (eM m encN (NV N)).holds w0) (hN : N.length ≤ 12) (hD : ∀ x ∈ N, Dn x.1 ∧ x.1.owner.size ≤ 9223372036854775807) :
    Ret Tryz.prog 122 #[.map (some m)] w0 fun v w' =>
      (∃ (L : Chs) (a : Option Addr) (n cap : Nat), v = .slice a n cap ∧ L.Perm N ∧ SP n L ∧ n = L.length ∧ NewR w0 w' 117 7 n (.slice a n cap) (CV L)) ∧ Fm [] w0 w' := by
  have hs := St.init w0 []
  obtain ⟨es, c, hm, hM⟩ := hE
  refine Ret_enter Tryz.func122 rfl Tryz.ntmps122 (by simp) ?_
  refine CW_seq (fun K1 hK1 => ?_)
  refine CW_region ?_
  refine asp (.slice _ _ _) rfl ?_
  refine WL_nil ?_
  refine hK1 _ _ ?_
  refine CW_seq (fun K2 hK2 => ?_)
  refine CW_region ?_
  refine mvp (.map _) rfl ?_
  refine cll (Values_ok m _) ?_
  rintro _ w ⟨g, rfl, hg1, hg2, hf⟩
  replace hs := hs.call hf
  have hg : w.heap[g]? = some (Blk 132 [.map (some m)]) := hg1
  refine cll (SortedFunc_ok g m N es c _ hM hg (hs.fm.keep hm (by simp)) hN hD) ?_
  rintro _ w ⟨⟨L, a, n, cap, rfl, hp, hsp, hn, hnew⟩, hf⟩
  replace hs := hs.callR hf hnew
  refine asp (.slice _ _ _) rfl ?_
  refine WL_nil ?_
  refine hK2 _ _ ?_
  refine CW_ret ?_
  repeat (first | (with_reducible apply thenF_ret) | (with_reducible apply blockF_ret))
  try simp only [thenF, blockF, reduceIte]
  refine Post_r Tryz.results122 (.tmp rfl .nil) ?_
  try simp only [ev_tmp, ev_const, upd_ap, Nat.reduceLT, Nat.reduceEqDiff, reduceIte]
  exact ⟨⟨L, a, n, cap, rfl, hp, hsp, hn, hs.newR⟩, hs.fm⟩
end Go.Proofs.YtkbldndbofbkcaaGreatDoor
/- state: Len, With, Without, Apply. -/
namespace Go.Proofs.YtkbldndbofbkcaaGreatDoor
open Go Go.RowKit
attribute [local irreducible] WL CW DW Ret RW
theorem SLen_ok (b : Nat) (t : Tr) (w0 : World) (hb : (eT b t).holds w0) : Ret Tryz.prog 117 #[.pointer (some ⟨b, 0, none⟩)] w0 fun v w' => v = .int .i64 t.many ∧ Fm [] w0 w' := by
  have hs := St.init w0 []
  refine Ret_enter Tryz.func117 rfl Tryz.ntmps117 (by simp) ?_
  refine CW_seq (fun K1 hK1 => ?_)
  refine CW_region ?_
  refine asp (.int _ _) rfl ?_
  refine WL_nil ?_
  refine hK1 _ _ ?_
  refine CW_seq (fun K2 hK2 => ?_)
  refine CW_region ?_
  refine mvp (.pointer _) rfl ?_
  refine cll (Stree_ok b t _ hb) ?_
  rintro _ w ⟨rfl, hf⟩
  replace hs := hs.call hf
  refine cll (many_ok t _ (hb.2.fm hs.fm)) ?_
  rintro _ w ⟨rfl, hf⟩
  replace hs := hs.call hf
  refine asp (.int _ _) rfl ?_
  refine WL_nil ?_
  refine hK2 _ _ ?_
  refine CW_ret ?_
  repeat (first | (with_reducible apply thenF_ret) | (with_reducible apply blockF_ret))
  try simp only [thenF, blockF, reduceIte]
  refine Post_r Tryz.results117 (.tmp rfl .nil) ?_
  try simp only [ev_tmp, ev_const, upd_ap, Nat.reduceLT, Nat.reduceEqDiff, reduceIte]
  exact ⟨by trivial, hs.fm⟩
/-- What comes of a state: the old one stays as it was. -/
structure NxT (b : Nat) (t : Tr) (b' : Nat) (t' : Tr) (w0 w' : World) : Prop where
  hd : (eT b' t').holds w'
  ok : StOk t'
  fp : ∀ x ∈ (eT b' t').fp, x ∈ (eT b t).fp ∨ w0.heap.size ≤ x
theorem NxT.turned {b : Nat} {t : Tr} {b' : Nat} {t' : Tr} {w0 w' : World} (h : NxT b t b' t' w0 w') (hf : Fm [] w0 w') : Turned (eT b t) (eT b' t') w0 w' :=
  ⟨rfl, h.hd, hf.mono (by simp), h.fp⟩
theorem stok_wl {t t' : Tr} {n : ONm} {v : ByteArray} (h : StOk t) (hn : onCheckB n = 0) (ho : n.owner.size ≤ 9223372036854775807) (ok : t'.ok) (hl : t'.list = t.wl n v) : StOk t' := by
  refine ⟨ok, by rw [hl]; exact (wl_sol v h.sol (Dn_of hn)).1, ?_⟩
  intro x hx
  rw [hl] at hx
  by_cases hxn : x.1 = n
  · rw [hxn]; exact ⟨hn, ho⟩
  · obtain ⟨A, B, e1, _, e3, _⟩ := split_tr n v (Dn_of hn) t h.sol
    rw [e1] at hx
    have hx2 : x ∈ t.list := by
      rcases List.mem_append.1 hx with hx | hx
      · rcases e3 with ⟨e, _⟩ | ⟨u, e, _⟩ <;> rw [e] <;> simp [hx]
      · rcases List.mem_cons.1 hx with rfl | hx
        · exact absurd rfl hxn
        · rcases e3 with ⟨e, _⟩ | ⟨u, e, _⟩ <;> rw [e] <;> simp [hx]
    exact h.nm x hx2
theorem stok_wo {t t' : Tr} {n : ONm} (h : StOk t) (hn : onCheckB n = 0) (ok : t'.ok) (hl : t'.list = t.wo n) : StOk t' := by
  refine ⟨ok, by rw [hl]; exact (wo_sol h.sol (Dn_of hn)).1, ?_⟩
  intro x hx
  rw [hl] at hx
  obtain ⟨A, B, _, e2, e3, _⟩ := split_tr n ⟨#[]⟩ (Dn_of hn) t h.sol
  rw [e2] at hx
  have hx2 : x ∈ t.list := by
    rcases e3 with ⟨e, _⟩ | ⟨u, e, _⟩ <;> rw [e]
    · exact hx
    · rcases List.mem_append.1 hx with hx | hx <;> simp [hx]
  exact h.nm x hx2
theorem SWith_ok (b : Nat) (t : Tr) (n : ONm) (s : ByteArray) (w0 : World) (hb : (eT b t).holds w0) (ht : StOk t) (hc : t.count ≤ 60000) (ho : n.owner.size ≤ 9223372036854775807) :
    Ret Tryz.prog 53 #[.pointer (some ⟨b, 0, none⟩), .agg (onV n).toArray, .string s] w0 fun u w' =>
      (callE n (s, false) ≠ 0 ∧ u = .tuple #[.pointer none, .int .i64 (callE n (s, false))] ∨ callE n (s, false) = 0 ∧ ∃ b' t', u = .tuple #[.pointer (some ⟨b', 0, none⟩), .int .i64 0] ∧ NxT b t b' t' w0 w' ∧ t'.list = t.wl n s) ∧ Fm [] w0 w' := by
  have hs := St.init w0 []
  have hcn := (Tr.cnt ht.ok).1
  refine Ret_enter Tryz.func53 rfl Tryz.ntmps53 (by simp) ?_
  refine CW_seq (fun K1 hK1 => ?_)
  refine CW_region ?_
  refine bx (.agg (onV n).toArray) (vl := onV n) hs rfl rfl ?_
  intro w g4 hs hg4 hf4
  replace hs := hs.put (e := eB b false (Blk 137 [t.ptr])) (hs.fm.keep hb.1 (by simp)) (by
    intro x hx y hy hq
    simp at hx; subst hx
    simp [eB] at hy hq
    have := hs.geB (b := g4)
    have := heap_lt hb.1
    omega) (by intro h; cases h)
  refine asp (.pointer _) rfl ?_
  refine asp (.int _ _) rfl ?_
  refine WL_nil ?_
  refine hK1 _ _ ?_
  refine CW_seq (fun K2 hK2 => ?_)
  refine CW_seq (fun K3 hK3 => ?_)
  refine CW_region ?_
  refine mvp (.pointer _) rfl ?_
  refine eqnP rfl rfl ?_
  refine WL_nil ?_
  refine hK3 _ _ ?_
  refine CW_condF rfl (rfl) ?_
  refine CW_skip ?_
  refine hK2 _ _ ?_
  refine CW_seq (fun K4 hK4 => ?_)
  refine CW_region ?_
  refine mvp (.pointer _) rfl ?_
  refine ldA hs rfl (by simp) ?_
  refine cll (SGet_ok b t n _ ((eT b t).loc (fun c hx => hs.fm.block c ((eT b t).lt hb c hx) (by simp)) hb) ho) ?_
  rintro _ w ⟨rfl, hf⟩
  replace hs := hs.call hf
  refine mvp (.tuple _) rfl ?_
  refine ext rfl rfl ?_
  refine ext rfl rfl ?_
  refine asp (.string _) rfl ?_
  refine asp (.bool _) rfl ?_
  refine WL_nil ?_
  refine hK4 _ _ ?_
  refine CW_seq (fun K5 hK5 => ?_)
  refine CW_block ?_
  refine CW_seq (fun K6 hK6 => ?_)
  refine CW_region ?_
  refine ldA hs rfl (by simp) ?_
  refine cll (NameCheck_ok n _ ho) ?_
  rintro _ w ⟨rfl, hf⟩
  replace hs := hs.call hf
  refine neqW rfl rfl ?_
  refine asp (.bool _) rfl ?_
  refine WL_nil ?_
  refine hK6 _ _ ?_
  refine CW_cond rfl (fun hc18 => ?_) (fun hc18 => ?_)
  · skip
    refine CW_seq (fun K7 hK7 => ?_)
    refine CW_region ?_
    refine asp (.pointer _) rfl ?_
    refine asp (.int _ _) rfl ?_
    refine WL_nil ?_
    refine hK7 _ _ ?_
    refine CW_ret ?_
    repeat (first | (with_reducible apply thenF_ret) | (with_reducible apply blockF_ret))
    try simp only [thenF, blockF, reduceIte]
    refine Post_r Tryz.results53 (.tmp rfl (.tmp rfl .nil)) ?_
    try simp only [ev_tmp, ev_const, upd_ap, Nat.reduceLT, Nat.reduceEqDiff, reduceIte]
    have h12 : onCheckB n ≠ 0 := by simpa using hc18
    have e1 : callE n (s, false) = 12 := by unfold callE; rw [if_pos h12]
    rw [e1]
    exact ⟨.inl ⟨by decide, by trivial⟩, hs.fm⟩
  · skip
    refine CW_seq (fun K8 hK8 => ?_)
    refine CW_region ?_
    refine mvp (.string _) rfl ?_
    refine lenS rfl ?_
    refine gtrW rfl rfl ?_
    refine asp (.bool _) rfl ?_
    refine WL_nil ?_
    refine hK8 _ _ ?_
    refine CW_cond rfl (fun hc22 => ?_) (fun hc22 => ?_)
    · skip
      refine CW_seq (fun K9 hK9 => ?_)
      refine CW_region ?_
      refine asp (.pointer _) rfl ?_
      refine asp (.int _ _) rfl ?_
      refine WL_nil ?_
      refine hK9 _ _ ?_
      refine CW_ret ?_
      repeat (first | (with_reducible apply thenF_ret) | (with_reducible apply blockF_ret))
      try simp only [thenF, blockF, reduceIte]
      refine Post_r Tryz.results53 (.tmp rfl (.tmp rfl .nil)) ?_
      try simp only [ev_tmp, ev_const, upd_ap, Nat.reduceLT, Nat.reduceEqDiff, reduceIte]
      have h12 : ¬ onCheckB n ≠ 0 := by simpa using hc18
      have h5 : 65536 < s.size := by simp at hc22; omega
      have e1 : callE n (s, false) = 5 := by unfold callE; rw [if_neg h12, if_pos h5]
      rw [e1]
      exact ⟨.inl ⟨by decide, by trivial⟩, hs.fm⟩
    · skip
      refine CW_seq (fun K10 hK10 => ?_)
      refine CW_region ?_
      refine mvp (.bool _) rfl ?_
      refine notW rfl ?_
      refine mvp (.bool _) rfl ?_
      refine WL_g (g := 29) rfl (by decide) rfl (fun hg29 => ?_) (fun hg29 => ?_)
      · skip
        refine mvp (.pointer _) rfl ?_
        refine WL_gy (g := 29) rfl (by decide) rfl ?_
        refine cll (SLen_ok b t _ ((eT b t).loc (fun c hx => hs.fm.block c ((eT b t).lt hb c hx) (by simp)) hb)) ?_
        rintro _ w ⟨rfl, hf⟩
        replace hs := hs.call hf
        refine WL_gy (g := 29) rfl (by decide) rfl ?_
        refine geqW rfl rfl ?_
        first | refine pkT rfl rfl ?_ | refine pkF rfl rfl ?_
        refine asp (.bool _) rfl ?_
        refine WL_nil ?_
        refine hK10 _ _ ?_
        refine CW_condF rfl ((by rw [hcn]; simp; omega)) ?_
        refine CW_skip ?_
        refine hK5 _ _ ?_
        refine CW_seq (fun K11 hK11 => ?_)
        refine DW_sH hs 999 ?_
        intro w hs _
        refine DW_q hs 0 rfl (by kernel_rfl) (fun w' hw' => X_move (v := (.pointer _)) rfl) ?_
        refine DW_q hs 1 rfl (by kernel_rfl) (fun w' hw' => X_nilCheckP rfl) ?_
        refine DW_q hs 2 rfl (by kernel_rfl) (fun w' hw' => X_fieldAddr rfl rfl) ?_
        refine DW_q hs 3 rfl (by kernel_rfl) (fun w' hw' => X_ldH hw' rfl rfl) ?_
        refine DW_q hs 4 rfl (by kernel_rfl) (fun w' hw' => X_ldAH hw' rfl (by simp)) ?_
        refine DW_q hs 5 rfl (by kernel_rfl) (fun w' hw' => X_move (v := (.string _)) rfl) ?_
        refine DW_l 6 rfl (by kernel_rfl) ?_
        refine cll (twith_ok (fun x => x ∈ (eT b t).fp ∨ w0.heap.size ≤ x) n s (by simp at hc22; omega) ho t _ (hb.2.fm hs.fm) ht.ok (by omega) (fun x hx => .inl (by simp [eT, hx])) (fun x hx => .inr (Nat.le_trans hs.fm.size hx))) ?_
        rintro _ w ⟨t1, rfl, hat1, ok1, hl1, hS1, hf⟩
        replace hs := hs.call hf
        refine WL_nil ?_
        refine ⟨.inr hs.hold, ?_⟩
        refine DW_q hs 7 rfl (by kernel_rfl) (fun w' hw' => X_build rfl rfl) ?_
        refine DW_l 8 rfl (by kernel_rfl) ?_
        refine bx (.agg _) hs rfl rfl ?_
        intro w g42 hs hg42 hf42
        refine WL_nil ?_
        refine ⟨.inr hs.hold, ?_⟩
        refine DW_q hs 9 rfl (by kernel_rfl) (fun w' hw' => X_assign (v := (.pointer _)) rfl) ?_
        refine DW_q hs 10 rfl (by kernel_rfl) (fun w' hw' => X_assign (v := (.int _ _)) rfl) ?_
        refine DW_e (by kernel_rfl) ?_
        refine hK11 _ _ ?_
        refine CW_ret ?_
        repeat (first | (with_reducible apply thenF_ret) | (with_reducible apply blockF_ret))
        try simp only [thenF, blockF, reduceIte]
        refine Post_r Tryz.results53 (.tmp rfl (.tmp rfl .nil)) ?_
        try simp only [ev_tmp, ev_const, upd_ap, Nat.reduceLT, Nat.reduceEqDiff, reduceIte]
        have h12 : ¬ onCheckB n ≠ 0 := by simpa using hc18
        have h5 : ¬ 65536 < s.size := by simp at hc22; omega
        have e1 : callE n (s, false) = 0 := by unfold callE; rw [if_neg h12, if_neg h5]
        refine ⟨.inr ⟨e1, g42, t1, by trivial, ⟨⟨hs.get InB.h, hat1.fm hf42⟩, stok_wl ht (by simpa using h12) ho ok1 hl1, ?_⟩, hl1⟩, hs.fm⟩
        intro x hx
        rcases List.mem_cons.1 hx with rfl | hx
        · exact .inr hs.geB
        · exact hS1 x hx
      · skip
        refine WL_gn (g := 29) rfl (by decide) rfl ?_
        refine WL_gn (g := 29) rfl (by decide) rfl ?_
        first | refine pkT rfl rfl ?_ | refine pkF rfl rfl ?_
        refine asp (.bool _) rfl ?_
        refine WL_nil ?_
        refine hK10 _ _ ?_
        refine CW_condF rfl rfl ?_
        refine CW_skip ?_
        refine hK5 _ _ ?_
        refine CW_seq (fun K12 hK12 => ?_)
        refine DW_sH hs 999 ?_
        intro w hs _
        refine DW_q hs 0 rfl (by kernel_rfl) (fun w' hw' => X_move (v := (.pointer _)) rfl) ?_
        refine DW_q hs 1 rfl (by kernel_rfl) (fun w' hw' => X_nilCheckP rfl) ?_
        refine DW_q hs 2 rfl (by kernel_rfl) (fun w' hw' => X_fieldAddr rfl rfl) ?_
        refine DW_q hs 3 rfl (by kernel_rfl) (fun w' hw' => X_ldH hw' rfl rfl) ?_
        refine DW_q hs 4 rfl (by kernel_rfl) (fun w' hw' => X_ldAH hw' rfl (by simp)) ?_
        refine DW_q hs 5 rfl (by kernel_rfl) (fun w' hw' => X_move (v := (.string _)) rfl) ?_
        refine DW_l 6 rfl (by kernel_rfl) ?_
        refine cll (twith_ok (fun x => x ∈ (eT b t).fp ∨ w0.heap.size ≤ x) n s (by simp at hc22; omega) ho t _ (hb.2.fm hs.fm) ht.ok (by omega) (fun x hx => .inl (by simp [eT, hx])) (fun x hx => .inr (Nat.le_trans hs.fm.size hx))) ?_
        rintro _ w ⟨t1, rfl, hat1, ok1, hl1, hS1, hf⟩
        replace hs := hs.call hf
        refine WL_nil ?_
        refine ⟨.inr hs.hold, ?_⟩
        refine DW_q hs 7 rfl (by kernel_rfl) (fun w' hw' => X_build rfl rfl) ?_
        refine DW_l 8 rfl (by kernel_rfl) ?_
        refine bx (.agg _) hs rfl rfl ?_
        intro w g42 hs hg42 hf42
        refine WL_nil ?_
        refine ⟨.inr hs.hold, ?_⟩
        refine DW_q hs 9 rfl (by kernel_rfl) (fun w' hw' => X_assign (v := (.pointer _)) rfl) ?_
        refine DW_q hs 10 rfl (by kernel_rfl) (fun w' hw' => X_assign (v := (.int _ _)) rfl) ?_
        refine DW_e (by kernel_rfl) ?_
        refine hK12 _ _ ?_
        refine CW_ret ?_
        repeat (first | (with_reducible apply thenF_ret) | (with_reducible apply blockF_ret))
        try simp only [thenF, blockF, reduceIte]
        refine Post_r Tryz.results53 (.tmp rfl (.tmp rfl .nil)) ?_
        try simp only [ev_tmp, ev_const, upd_ap, Nat.reduceLT, Nat.reduceEqDiff, reduceIte]
        have h12 : ¬ onCheckB n ≠ 0 := by simpa using hc18
        have h5 : ¬ 65536 < s.size := by simp at hc22; omega
        have e1 : callE n (s, false) = 0 := by unfold callE; rw [if_neg h12, if_neg h5]
        refine ⟨.inr ⟨e1, g42, t1, by trivial, ⟨⟨hs.get InB.h, hat1.fm hf42⟩, stok_wl ht (by simpa using h12) ho ok1 hl1, ?_⟩, hl1⟩, hs.fm⟩
        intro x hx
        rcases List.mem_cons.1 hx with rfl | hx
        · exact .inr hs.geB
        · exact hS1 x hx
theorem Fm.ent {w w' : World} (hf : Fm [] w w') (e : Ent) (h : e.holds w) : e.holds w' := e.loc (fun c hx => hf.block c (e.lt h c hx) (by simp)) h
theorem row_blk {w : World} {a : Option Addr} {n cap E size : Nat} {xs : List Value} (h : (eR (.slice a n cap) E size n xs).holds w) (hn : 0 < n) : ∃ g zs, a = some ⟨g, 0, none⟩ ∧ w.heap[g]? = some (Blk E (xs ++ zs)) ∧ g ∈ (eR (.slice a n cap) E size n xs).fp ∧ n ≤ cap := by
  obtain ⟨g, zs, e, hs, _, hnc, _⟩ := (St.ent h).openC (a := a) hn
  exact ⟨g, zs, e, hs.get InB.h, by subst e; simp [eR, Value.ownBlock], hnc⟩
theorem SWithout_ok (b : Nat) (t : Tr) (n : ONm) (w0 : World) (hb : (eT b t).holds w0) (ht : StOk t) (hc : t.count ≤ 60000) (hn : onCheckB n = 0) (ho : n.owner.size ≤ 9223372036854775807) :
    Ret Tryz.prog 136 #[.pointer (some ⟨b, 0, none⟩), .agg (onV n).toArray] w0 fun u w' =>
      (∃ b' t', u = .tuple #[.pointer (some ⟨b', 0, none⟩), .int .i64 0] ∧ NxT b t b' t' w0 w' ∧ t'.list = t.wo n) ∧ Fm [] w0 w' := by
  have hs := St.init w0 []
  refine Ret_enter Tryz.func136 rfl Tryz.ntmps136 (by simp) ?_
  refine CW_seq (fun K1 hK1 => ?_)
  refine CW_region ?_
  refine bx (.agg (onV n).toArray) (vl := onV n) hs rfl rfl ?_
  intro w g3 hs hg3 hf3
  replace hs := hs.put (e := eB b false (Blk 137 [t.ptr])) (hs.fm.keep hb.1 (by simp)) (by
    intro x hx y hy hq
    simp at hx; subst hx
    simp [eB] at hy hq
    have := hs.geB (b := g3)
    have := heap_lt hb.1
    omega) (by intro h; cases h)
  refine asp (.pointer _) rfl ?_
  refine asp (.int _ _) rfl ?_
  refine WL_nil ?_
  refine hK1 _ _ ?_
  refine CW_seq (fun K2 hK2 => ?_)
  refine CW_block ?_
  refine CW_seq (fun K3 hK3 => ?_)
  refine CW_region ?_
  refine mvp (.pointer _) rfl ?_
  refine eqnP rfl rfl ?_
  refine asp (.bool _) rfl ?_
  refine WL_nil ?_
  refine hK3 _ _ ?_
  refine CW_condF rfl (rfl) ?_
  refine CW_seq (fun K4 hK4 => ?_)
  refine CW_region ?_
  refine ldA hs rfl (by simp) ?_
  refine cll (NameCheck_ok n _ ho) ?_
  rintro _ w ⟨rfl, hf⟩
  replace hs := hs.call hf
  refine neqW rfl rfl ?_
  refine asp (.bool _) rfl ?_
  refine WL_nil ?_
  refine hK4 _ _ ?_
  refine CW_condF rfl ((by rw [hn]; rfl)) ?_
  refine CW_skip ?_
  refine hK2 _ _ ?_
  refine CW_seq (fun K5 hK5 => ?_)
  refine CW_seq (fun K6 hK6 => ?_)
  refine CW_region ?_
  refine mvp (.pointer _) rfl ?_
  refine ldA hs rfl (by simp) ?_
  refine cll (SGet_ok b t n _ (hs.fm.ent _ hb) ho) ?_
  rintro _ w ⟨rfl, hf⟩
  replace hs := hs.call hf
  refine mvp (.tuple _) rfl ?_
  refine ext rfl rfl ?_
  refine ext rfl rfl ?_
  refine asp (.string _) rfl ?_
  refine asp (.bool _) rfl ?_
  refine WL_nil ?_
  refine hK6 _ _ ?_
  refine CW_seq (fun K7 hK7 => ?_)
  refine CW_region ?_
  refine mvp (.bool _) rfl ?_
  refine notW rfl ?_
  refine WL_nil ?_
  refine hK7 _ _ ?_
  refine CW_cond rfl (fun hc22 => ?_) (fun hc22 => ?_)
  · skip
    refine CW_seq (fun K8 hK8 => ?_)
    refine CW_region ?_
    refine mvp (.pointer _) rfl ?_
    refine asp (.pointer _) rfl ?_
    refine asp (.int _ _) rfl ?_
    refine WL_nil ?_
    refine hK8 _ _ ?_
    refine CW_ret ?_
    repeat (first | (with_reducible apply thenF_ret) | (with_reducible apply blockF_ret))
    try simp only [thenF, blockF, reduceIte]
    refine Post_r Tryz.results136 (.tmp rfl (.tmp rfl .nil)) ?_
    try simp only [ev_tmp, ev_const, upd_ap, Nat.reduceLT, Nat.reduceEqDiff, reduceIte]
    have hN : t.get n = none := by simpa using hc22
    have hl : t.list = t.wo n := by
      obtain ⟨A, B, _, e2, e3, _⟩ := split_tr n ⟨#[]⟩ (Dn_of hn) t ht.sol
      rcases e3 with ⟨e, _⟩ | ⟨u, _, e⟩
      · rw [e, e2]
      · rw [hN] at e; cases e
    exact ⟨⟨b, t, by trivial, ⟨hs.fm.ent _ hb, ht, fun x hx => .inl hx⟩, hl⟩, hs.fm⟩
  · skip
    refine CW_skip ?_
    refine hK5 _ _ ?_
    refine CW_seq (fun K9 hK9 => ?_)
    refine DW_sH hs 999 ?_
    intro w hs _
    refine DW_q hs 0 rfl (by kernel_rfl) (fun w' hw' => X_move (v := (.pointer _)) rfl) ?_
    refine DW_q hs 1 rfl (by kernel_rfl) (fun w' hw' => X_nilCheckP rfl) ?_
    refine DW_q hs 2 rfl (by kernel_rfl) (fun w' hw' => X_fieldAddr rfl rfl) ?_
    refine DW_q hs 3 rfl (by kernel_rfl) (fun w' hw' => X_ldH hw' rfl rfl) ?_
    refine DW_q hs 4 rfl (by kernel_rfl) (fun w' hw' => X_ldAH hw' rfl (by simp)) ?_
    refine DW_l 5 rfl (by kernel_rfl) ?_
    refine cll (twithout_ok (fun x => x ∈ (eT b t).fp ∨ w0.heap.size ≤ x) n ho t _ (hb.2.fm hs.fm) ht.ok (by omega) (fun x hx => .inl (by simp [eT, hx])) (fun x hx => .inr (Nat.le_trans hs.fm.size hx))) ?_
    rintro _ w ⟨t1, rfl, hat1, ok1, hl1, hS1, hf⟩
    replace hs := hs.call hf
    refine WL_nil ?_
    refine ⟨.inr hs.hold, ?_⟩
    refine DW_q hs 6 rfl (by kernel_rfl) (fun w' hw' => X_build rfl rfl) ?_
    refine DW_l 7 rfl (by kernel_rfl) ?_
    refine bx (.agg _) hs rfl rfl ?_
    intro w g31 hs hg31 hf31
    refine WL_nil ?_
    refine ⟨.inr hs.hold, ?_⟩
    refine DW_q hs 8 rfl (by kernel_rfl) (fun w' hw' => X_assign (v := (.pointer _)) rfl) ?_
    refine DW_q hs 9 rfl (by kernel_rfl) (fun w' hw' => X_assign (v := (.int _ _)) rfl) ?_
    refine DW_e (by kernel_rfl) ?_
    refine hK9 _ _ ?_
    refine CW_ret ?_
    repeat (first | (with_reducible apply thenF_ret) | (with_reducible apply blockF_ret))
    try simp only [thenF, blockF, reduceIte]
    refine Post_r Tryz.results136 (.tmp rfl (.tmp rfl .nil)) ?_
    try simp only [ev_tmp, ev_const, upd_ap, Nat.reduceLT, Nat.reduceEqDiff, reduceIte]
    refine ⟨⟨g31, t1, by trivial, ⟨⟨hs.get InB.h, hat1.fm hf31⟩, stok_wo ht hn ok1 hl1, ?_⟩, hl1⟩, hs.fm⟩
    intro x hx
    rcases List.mem_cons.1 hx with rfl | hx
    · exact .inr hs.geB
    · exact hS1 x hx
theorem NxT.trans {b b' b2 : Nat} {t t' t2 : Tr} {w0 w1 w2 : World} (h : NxT b t b' t' w0 w1) (k : NxT b' t' b2 t2 w1 w2) (hf : Fm [] w0 w1) : NxT b t b2 t2 w0 w2 :=
  ⟨k.hd, k.ok, fun x hx => by rcases k.fp x hx with h1 | h1; exact h.fp x h1; exact .inr (Nat.le_trans hf.size h1)⟩
theorem NxT.later {b b' : Nat} {t t' : Tr} {w0 w1 w2 : World} (h : NxT b t b' t' w0 w1) (hf : Fm [] w1 w2) : NxT b t b' t' w0 w2 := ⟨hf.ent _ h.hd, h.ok, h.fp⟩
theorem apG_snoc (x : Ch) : ∀ (L : Chs) (G : ONm → Option ByteArray) (m : ONm), apG G (L ++ [x]) m = if m = x.1 then (if x.2.2 = true then none else some x.2.1) else apG G L m
  | [], _, _ => rfl
  | _ :: L, _, m => apG_snoc x L _ m
/-- A change that a state takes. -/
def ChOk (x : Ch) : Prop := onCheckB x.1 = 0 ∧ x.2.1.size ≤ 65536 ∧ x.1.owner.size ≤ 9223372036854775807
theorem NxT.step {b b' b2 : Nat} {t t' t2 : Tr} {w0 w1 w2 w3 : World} (h : NxT b t b' t' w0 w1) (k : NxT b' t' b2 t2 w2 w3) (hsz : w0.heap.size ≤ w2.heap.size) : NxT b t b2 t2 w0 w3 :=
  ⟨k.hd, k.ok, fun x hx => by rcases k.fp x hx with h1 | h1; exact h.fp x h1; exact .inr (Nat.le_trans hsz h1)⟩
theorem callE_0 {n : ONm} {s : ByteArray} {q : Bool} (h1 : onCheckB n = 0) (h2 : s.size ≤ 65536) : callE n (s, q) = 0 := by
  unfold callE; rw [if_neg (by rw [h1]; simp), if_neg (by simp; omega)]
theorem Apply_ok (b : Nat) (t : Tr) (a : Option Addr) (n cap : Nat) (L : Chs) (w0 : World) (hb : (eT b t).holds w0) (ht : StOk t) (hE : (eR (.slice a n cap) 117 7 n (CV L)).holds w0) (hn : n = L.length) (hc : t.count + n ≤ 60000) (hL : ∀ x ∈ L, ChOk x) :
    Ret Tryz.prog 68 #[.pointer (some ⟨b, 0, none⟩), .slice a n cap] w0 fun u w' =>
      (∃ b' t', u = .tuple #[.pointer (some ⟨b', 0, none⟩), .int .i64 0] ∧ NxT b t b' t' w0 w' ∧ (∀ q, olk t'.list q = apG (olk t.list) L q) ∧ t'.count ≤ t.count + n) ∧ Fm [] w0 w' := by
  have hs := St.init w0 []
  refine Ret_enter Tryz.func68 rfl Tryz.ntmps68 (by simp) ?_
  refine CW_seq (fun K1 hK1 => ?_)
  refine CW_region ?_
  refine asp (.pointer _) rfl ?_
  refine asp (.int _ _) rfl ?_
  refine WL_nil ?_
  refine hK1 _ _ ?_
  refine CW_seq (fun K2 hK2 => ?_)
  refine CW_seq (fun K3 hK3 => ?_)
  refine CW_region ?_
  refine mvp (.pointer _) rfl ?_
  refine eqnP rfl rfl ?_
  refine WL_nil ?_
  refine hK3 _ _ ?_
  refine CW_condF rfl (rfl) ?_
  refine CW_skip ?_
  refine hK2 _ _ ?_
  refine CW_seq (fun K4 hK4 => ?_)
  refine CW_region ?_
  refine asp (.int _ _) rfl ?_
  refine WL_nil ?_
  refine hK4 _ _ ?_
  refine CW_seq (fun K5 hK5 => ?_)
  refine CW_seq (fun K6 hK6 => ?_)
  refine CW_region ?_
  refine mvp (.slice _ _ _) rfl ?_
  refine lenW rfl ?_
  refine mvp (.int _ _) rfl ?_
  refine WL_nil ?_
  refine hK6 _ _ ?_
  refine CW_block ?_
  refine CW_loop (fun k f w' => ∃ (j b1 : Nat) (t1 : Tr), k = n - j ∧ j ≤ n ∧ f 0 = .pointer (some ⟨b1, 0, none⟩) ∧ f 6 = .int .i64 0 ∧ f 11 = .slice a n cap ∧ f 12 = .int .i64 n ∧ f 13 = .int .i64 j ∧ NxT b t b1 t1 w0 w' ∧ (∀ q, olk t1.list q = apG (olk t.list) (L.take j) q) ∧ t1.count ≤ t.count + j ∧ St w0 [] w' []) n ?_ ?_
  · exact ⟨0, b, t, by omega, by omega, rfl, rfl, rfl, rfl, rfl, ⟨hb, ht, fun x hx => .inl hx⟩, fun q => rfl, by omega, hs⟩
  · rintro k f w1 ⟨j, b1, t1, rfl, hj, e0, e6, e11, e12, e13, hx, hG, hc1, hs⟩
    refine CW_kn (i := 0) e0 (CW_kn (i := 6) e6 (CW_kn (i := 11) e11 (CW_kn (i := 12) e12 (CW_kn (i := 13) e13 ?_))))
    refine CW_seq (fun K7 hK7 => ?_)
    refine CW_region ?_
    refine lssW rfl rfl ?_
    refine WL_nil ?_
    refine hK7 _ _ ?_
    refine CW_seq (fun K8 hK8 => ?_)
    refine CW_cond rfl (fun hc14 => ?_) (fun hc14 => ?_)
    · have hjn : j < n := by simpa using hc14
      have hjl : j < L.length := by omega
      obtain ⟨g, zs, rfl, hg, _, hncap⟩ := row_blk hE (by omega)
      replace hs := hs.put (e := eB g false (Blk 117 (CV L ++ zs))) (hs.fm.keep hg (by simp)) (by simp) (by intro h; cases h)
      obtain ⟨hx1, hx2, hx3⟩ := hL L[j] (List.getElem_mem _)
      have htk : L.take (j + 1) = L.take j ++ [L[j]] := by rw [List.take_add_one, List.getElem?_eq_getElem hjl]; rfl
      refine CW_skip ?_
      refine hK8 _ _ ?_
      refine CW_seq (fun K9 hK9 => ?_)
      refine CW_block ?_
      refine CW_seq (fun K10 hK10 => ?_)
      refine CW_region ?_
      refine iad rfl rfl (by omega) ?_
      refine WL_v (v := encC L[j]) (X_ldCh hs.has hjl rfl) ?_
      replace hs := hs.drop1.put (e := roE (eT b1 t1)) hx.hd (by simp) (by intro q; cases q)
      refine alc hs ?_
      intro w g8 hs hg8 hf8
      refine sto (.agg (chV L[j].1 L[j].2).toArray) (vl := chV L[j].1 L[j].2) hs rfl rfl rfl rfl (by simp) rfl ?_
      intro w hs hf8s
      replace hs : St w0 [] w [eB g8 true (Blk 117 [.int .i64 L[j].1.kind, .string L[j].1.owner, .int .i64 L[j].1.num, .int .i64 L[j].1.idx, .string L[j].1.text, .string L[j].2.1, .bool L[j].2.2]), roE (eT b1 t1)] := hs
      refine WL_nil ?_
      refine hK10 _ _ ?_
      refine CW_seq (fun K11 hK11 => ?_)
      refine CW_seq (fun K12 hK12 => ?_)
      refine CW_region ?_
      refine fad rfl ?_
      refine ld hs rfl rfl ?_
      refine WL_nil ?_
      refine hK12 _ _ ?_
      refine CW_cond rfl (fun hc18 => ?_) (fun hc18 => ?_)
      · skip
        refine CW_region ?_
        refine mvp (.pointer _) rfl ?_
        refine fad rfl ?_
        refine ldA hs rfl (by simp) ?_
        refine cll (SWithout_ok b1 t1 L[j].1 _ (hs.he (roE (eT b1 t1))) hx.ok (by omega) hx1 hx3) ?_
        rintro _ w ⟨⟨b2, t2, rfl, hx4, hl2⟩, hf⟩
        have hsz := hs.fm.size
        replace hs := hs.call hf
        refine mvp (.tuple _) rfl ?_
        refine ext rfl rfl ?_
        refine ext rfl rfl ?_
        refine asp (.pointer _) rfl ?_
        refine asp (.int _ _) rfl ?_
        refine WL_nil ?_
        refine hK11 _ _ ?_
        refine CW_seq (fun K13 hK13 => ?_)
        refine CW_region ?_
        refine mvp (.int _ _) rfl ?_
        refine neqW rfl rfl ?_
        refine WL_nil ?_
        refine hK13 _ _ ?_
        refine CW_condF rfl (rfl) ?_
        refine CW_skip ?_
        refine hK9 _ _ ?_
        refine CW_region ?_
        first | refine addI rfl rfl (by omega) ?_ | refine addW rfl rfl ?_
        refine mvp (.int _ _) rfl ?_
        refine WL_nil ?_
        skip
        have hG2 : ∀ q, olk t2.list q = apG (olk t.list) (L.take (j + 1)) q := by
          intro q
          first
            | rw [htk, apG_snoc, hl2, (wo_sol hx.ok.sol (Dn_of hx1)).2 q, hG, hc18]; rfl
            | (have hc18' : L[j].2.2 = false := by simpa using hc18
               rw [htk, apG_snoc, hl2, (wl_sol _ hx.ok.sol (Dn_of hx1)).2 q, hG, hc18']; rfl)
        have hc2 : t2.count ≤ t.count + (j + 1) := by
          rw [Tr.count_list hl2]
          first
            | (have := Tr.wo_len L[j].1 t1; omega)
            | (have := Tr.wl_len L[j].1 L[j].2.1 t1; omega)
        exact ⟨n - (j + 1), by omega, j + 1, b2, t2, rfl, by omega, rfl, rfl, rfl, rfl, rfl, hx.step hx4 hsz, hG2, hc2, hs.wk⟩
      · skip
        refine CW_region ?_
        refine mvp (.pointer _) rfl ?_
        refine fad rfl ?_
        refine ldA hs rfl (by simp) ?_
        refine fad rfl ?_
        refine ld hs rfl rfl ?_
        refine cll (SWith_ok b1 t1 L[j].1 L[j].2.1 _ (hs.he (roE (eT b1 t1))) hx.ok (by omega) hx3) ?_
        rintro _ w ⟨h32, hf⟩
        obtain ⟨b2, t2, rfl, hx4, hl2⟩ := h32.resolve_left (fun h => h.1 (callE_0 hx1 hx2))|>.2
        have hsz := hs.fm.size
        replace hs := hs.call hf
        refine mvp (.tuple _) rfl ?_
        refine ext rfl rfl ?_
        refine ext rfl rfl ?_
        refine asp (.pointer _) rfl ?_
        refine asp (.int _ _) rfl ?_
        refine WL_nil ?_
        refine hK11 _ _ ?_
        refine CW_seq (fun K14 hK14 => ?_)
        refine CW_region ?_
        refine mvp (.int _ _) rfl ?_
        refine neqW rfl rfl ?_
        refine WL_nil ?_
        refine hK14 _ _ ?_
        refine CW_condF rfl (rfl) ?_
        refine CW_skip ?_
        refine hK9 _ _ ?_
        refine CW_region ?_
        first | refine addI rfl rfl (by omega) ?_ | refine addW rfl rfl ?_
        refine mvp (.int _ _) rfl ?_
        refine WL_nil ?_
        skip
        have hG2 : ∀ q, olk t2.list q = apG (olk t.list) (L.take (j + 1)) q := by
          intro q
          first
            | rw [htk, apG_snoc, hl2, (wo_sol hx.ok.sol (Dn_of hx1)).2 q, hG, hc18]; rfl
            | (have hc18' : L[j].2.2 = false := by simpa using hc18
               rw [htk, apG_snoc, hl2, (wl_sol _ hx.ok.sol (Dn_of hx1)).2 q, hG, hc18']; rfl)
        have hc2 : t2.count ≤ t.count + (j + 1) := by
          rw [Tr.count_list hl2]
          first
            | (have := Tr.wo_len L[j].1 t1; omega)
            | (have := Tr.wl_len L[j].1 L[j].2.1 t1; omega)
        exact ⟨n - (j + 1), by omega, j + 1, b2, t2, rfl, by omega, rfl, rfl, rfl, rfl, rfl, hx.step hx4 hsz, hG2, hc2, hs.wk⟩
    · skip
      refine CW_exit ?_
      refine hK5 _ _ ?_
      refine CW_seq (fun K15 hK15 => ?_)
      refine CW_region ?_
      refine mvp (.pointer _) rfl ?_
      refine asp (.pointer _) rfl ?_
      refine asp (.int _ _) rfl ?_
      refine WL_nil ?_
      refine hK15 _ _ ?_
      refine CW_ret ?_
      repeat (first | (with_reducible apply thenF_ret) | (with_reducible apply blockF_ret))
      try simp only [thenF, blockF, reduceIte]
      refine Post_r Tryz.results68 (.tmp rfl (.tmp rfl .nil)) ?_
      try simp only [ev_tmp, ev_const, upd_ap, Nat.reduceLT, Nat.reduceEqDiff, reduceIte]
      have hjn : j = n := by simp at hc14; omega
      exact ⟨⟨b1, t1, by trivial, hx, fun q => by rw [hG, hjn, hn, List.take_length], by omega⟩, hs.fm⟩
end Go.Proofs.YtkbldndbofbkcaaGreatDoor
/- view: Writes, Reads, After. -/
namespace Go.Proofs.YtkbldndbofbkcaaGreatDoor
open Go Go.RowKit
attribute [local irreducible] WL CW DW Ret RW
/-- The changes that a map of a view may hold. -/
def MapOk (N : Chs) : Prop := (N.map (·.1)).Nodup ∧ ∀ x ∈ N, ChOk x
theorem MapOk.dn {N : Chs} (h : MapOk N) : ∀ x ∈ N, Dn x.1 ∧ x.1.owner.size ≤ 9223372036854775807 := fun x hx => ⟨Dn_of (h.2 x hx).1, (h.2 x hx).2.2⟩
theorem mapok_nil : MapOk [] := ⟨.nil, by simp⟩
theorem VWrites_ok (g b r1 r2 : Nat) (t : Tr) (a : Option Addr) (m c : Nat) (R C N : Chs) (w0 : World) (hV : (eV g b r1 r2 t a m c R C N).holds w0) (hN : MapOk N) (h12 : N.length ≤ 12) :
    Ret Tryz.prog 57 #[.pointer (some ⟨g, 0, none⟩)] w0 fun v w' =>
      (∃ (L : Chs) (a : Option Addr) (n cap : Nat), v = .slice a n cap ∧ L.Perm N ∧ SP n L ∧ n = L.length ∧ NewR w0 w' 117 7 n (.slice a n cap) (CV L)) ∧ Fm [] w0 w' := by
  have hs := St.init w0 []
  have hg := hV.1 _ (.head _)
  have hM : (eM r2 encN (NV N)).holds w0 := hV.1 _ (.tail _ (.tail _ (.tail _ (.head _))))
  replace hs := hs.put (e := eB g false (Blk 134 [.pointer (some ⟨b, 0, none⟩), .map (some r1), .slice a m c, .map (some r2)])) hg (by simp) (by intro q; cases q)
  refine Ret_enter Tryz.func57 rfl Tryz.ntmps57 (by simp) ?_
  refine CW_seq (fun K1 hK1 => ?_)
  refine CW_region ?_
  refine asp (.slice _ _ _) rfl ?_
  refine WL_nil ?_
  refine hK1 _ _ ?_
  refine CW_seq (fun K2 hK2 => ?_)
  refine CW_seq (fun K3 hK3 => ?_)
  refine CW_region ?_
  refine mvp (.pointer _) rfl ?_
  refine eqnP rfl rfl ?_
  refine WL_nil ?_
  refine hK3 _ _ ?_
  refine CW_condF rfl (rfl) ?_
  refine CW_skip ?_
  refine hK2 _ _ ?_
  refine CW_seq (fun K4 hK4 => ?_)
  refine CW_region ?_
  refine mvp (.pointer _) rfl ?_
  refine nckW rfl ?_
  refine fad rfl ?_
  refine ld hs rfl rfl ?_
  refine cll (sorted_ok r2 N _ (hs.fm.ent _ hM) h12 hN.dn) ?_
  rintro _ w ⟨⟨L, a1, n1, cap1, rfl, hp, hsp, hn, hnew⟩, hf⟩
  replace hs := hs.callR hf hnew
  refine asp (.slice _ _ _) rfl ?_
  refine WL_nil ?_
  refine hK4 _ _ ?_
  refine CW_ret ?_
  repeat (first | (with_reducible apply thenF_ret) | (with_reducible apply blockF_ret))
  try simp only [thenF, blockF, reduceIte]
  refine Post_r Tryz.results57 (.tmp rfl .nil) ?_
  try simp only [ev_tmp, ev_const, upd_ap, Nat.reduceLT, Nat.reduceEqDiff, reduceIte]
  exact ⟨⟨L, a1, n1, cap1, rfl, hp, hsp, hn, hs.newR⟩, hs.fm⟩
theorem VReads_ok (g b r1 r2 : Nat) (t : Tr) (a : Option Addr) (m c : Nat) (R C N : Chs) (w0 : World) (hV : (eV g b r1 r2 t a m c R C N).holds w0) (hN : MapOk R) (h12 : R.length ≤ 12) :
    Ret Tryz.prog 65 #[.pointer (some ⟨g, 0, none⟩)] w0 fun v w' =>
      (∃ (L : Chs) (a : Option Addr) (n cap : Nat), v = .slice a n cap ∧ L.Perm R ∧ SP n L ∧ n = L.length ∧ NewR w0 w' 117 7 n (.slice a n cap) (CV L)) ∧ Fm [] w0 w' := by
  have hs := St.init w0 []
  have hg := hV.1 _ (.head _)
  have hM : (eM r1 encN (NV R)).holds w0 := hV.1 _ (.tail _ (.head _))
  replace hs := hs.put (e := eB g false (Blk 134 [.pointer (some ⟨b, 0, none⟩), .map (some r1), .slice a m c, .map (some r2)])) hg (by simp) (by intro q; cases q)
  refine Ret_enter Tryz.func65 rfl Tryz.ntmps65 (by simp) ?_
  refine CW_seq (fun K1 hK1 => ?_)
  refine CW_region ?_
  refine asp (.slice _ _ _) rfl ?_
  refine WL_nil ?_
  refine hK1 _ _ ?_
  refine CW_seq (fun K2 hK2 => ?_)
  refine CW_seq (fun K3 hK3 => ?_)
  refine CW_region ?_
  refine mvp (.pointer _) rfl ?_
  refine eqnP rfl rfl ?_
  refine WL_nil ?_
  refine hK3 _ _ ?_
  refine CW_condF rfl (rfl) ?_
  refine CW_skip ?_
  refine hK2 _ _ ?_
  refine CW_seq (fun K4 hK4 => ?_)
  refine CW_region ?_
  refine mvp (.pointer _) rfl ?_
  refine nckW rfl ?_
  refine fad rfl ?_
  refine ld hs rfl rfl ?_
  refine cll (sorted_ok r1 R _ (hs.fm.ent _ hM) h12 hN.dn) ?_
  rintro _ w ⟨⟨L, a1, n1, cap1, rfl, hp, hsp, hn, hnew⟩, hf⟩
  replace hs := hs.callR hf hnew
  refine asp (.slice _ _ _) rfl ?_
  refine WL_nil ?_
  refine hK4 _ _ ?_
  refine CW_ret ?_
  repeat (first | (with_reducible apply thenF_ret) | (with_reducible apply blockF_ret))
  try simp only [thenF, blockF, reduceIte]
  refine Post_r Tryz.results65 (.tmp rfl .nil) ?_
  try simp only [ev_tmp, ev_const, upd_ap, Nat.reduceLT, Nat.reduceEqDiff, reduceIte]
  exact ⟨⟨L, a1, n1, cap1, rfl, hp, hsp, hn, hs.newR⟩, hs.fm⟩
theorem MapOk.perm {N L : Chs} (h : MapOk N) (hp : L.Perm N) : MapOk L := ⟨((hp.map (·.1)).nodup_iff).2 h.1, fun x hx => h.2 x (hp.mem_iff.1 hx)⟩
theorem after_gv {t t' : Tr} {N L : Chs} (ht : StOk t) (ht' : StOk t') (hN : MapOk N) (hp : L.Perm N) (hG : ∀ q, olk t'.list q = apG (olk t.list) L q) (n : ONm) : gv t' [] n = gv t N n := by
  by_cases hn : onCheckB n = 0
  · rw [gv_nil ht', hG, apG_nget L (hN.perm hp).1, gv_net hn, nget_perm hp.symm hN.1, gv_nil ht]
  · rw [gv_bad hn, gv_bad hn]
/-- The state after the writes has what the view has. -/
theorem After_ok (g b r1 r2 : Nat) (t : Tr) (a : Option Addr) (m c : Nat) (R C N : Chs) (w0 : World) (hV : (eV g b r1 r2 t a m c R C N).holds w0) (ht : StOk t) (hN : MapOk N) (h12 : N.length ≤ 12) (hc : t.count ≤ 50000) :
    Ret Tryz.prog 135 #[.pointer (some ⟨g, 0, none⟩)] w0 fun v w' =>
      ∃ b' t', v = .tuple #[.pointer (some ⟨b', 0, none⟩), .int .i64 0] ∧ StOk t' ∧ t'.count ≤ t.count + 12 ∧ (∀ n, gv t' [] n = gv t N n) ∧ Turned (eV g b r1 r2 t a m c R C N) (eT b' t') w0 w' := by
  have hs := (St.ent hV).unpack
  refine Ret_enter Tryz.func135 rfl Tryz.ntmps135 (by simp) ?_
  refine CW_seq (fun K1 hK1 => ?_)
  refine CW_region ?_
  refine asp (.pointer _) rfl ?_
  refine asp (.int _ _) rfl ?_
  refine WL_nil ?_
  refine hK1 _ _ ?_
  refine CW_seq (fun K2 hK2 => ?_)
  refine CW_seq (fun K3 hK3 => ?_)
  refine CW_region ?_
  refine mvp (.pointer _) rfl ?_
  refine eqnP rfl rfl ?_
  refine WL_nil ?_
  refine hK3 _ _ ?_
  refine CW_condF rfl (rfl) ?_
  refine CW_skip ?_
  refine hK2 _ _ ?_
  refine CW_seq (fun K4 hK4 => ?_)
  refine DW_sH hs 999 ?_
  intro w hs _
  refine DW_q hs 0 rfl (by kernel_rfl) (fun w' hw' => X_move (v := (.pointer _)) rfl) ?_
  refine DW_q hs 1 rfl (by kernel_rfl) (fun w' hw' => X_nilCheckP rfl) ?_
  refine DW_q hs 2 rfl (by kernel_rfl) (fun w' hw' => X_fieldAddr rfl rfl) ?_
  refine DW_q hs 3 rfl (by kernel_rfl) (fun w' hw' => X_ldH hw' rfl rfl) ?_
  refine DW_q hs 4 rfl (by kernel_rfl) (fun w' hw' => X_move (v := (.pointer _)) rfl) ?_
  refine DW_l 5 rfl (by kernel_rfl) ?_
  refine cll (VWrites_ok g b r1 r2 t a m c R C N _ ((hs.pack vH_own).he _) hN h12) ?_
  rintro _ w ⟨⟨L, a1, n1, cap1, rfl, hp, _, hn, hnew⟩, hf⟩
  replace hs := hs.callR hf hnew
  have hpl := hp.length_eq
  refine WL_nil ?_
  refine ⟨.inr hs.hold, ?_⟩
  refine DW_l 6 rfl (by kernel_rfl) ?_
  refine cll (Apply_ok b t a1 n1 cap1 L _ (hs.he _) ht (hs.he _) hn (by omega) (hN.perm hp).2) ?_
  rintro _ w ⟨⟨b2, t2, rfl, hx, hG, hcn⟩, hf⟩
  have hsz := hs.fm.size
  replace hs := hs.call hf
  refine WL_nil ?_
  refine ⟨.inr hs.hold, ?_⟩
  refine DW_q hs 7 rfl (by kernel_rfl) (fun w' hw' => X_extract rfl rfl) ?_
  refine DW_q hs 8 rfl (by kernel_rfl) (fun w' hw' => X_extract rfl rfl) ?_
  refine DW_q hs 9 rfl (by kernel_rfl) (fun w' hw' => X_assign (v := (.pointer _)) rfl) ?_
  refine DW_q hs 10 rfl (by kernel_rfl) (fun w' hw' => X_assign (v := (.int _ _)) rfl) ?_
  refine DW_e (by kernel_rfl) ?_
  refine hK4 _ _ ?_
  refine CW_ret ?_
  repeat (first | (with_reducible apply thenF_ret) | (with_reducible apply blockF_ret))
  try simp only [thenF, blockF, reduceIte]
  refine Post_r Tryz.results135 (.tmp rfl (.tmp rfl .nil)) ?_
  try simp only [ev_tmp, ev_const, upd_ap, Nat.reduceLT, Nat.reduceEqDiff, reduceIte]
  refine ⟨b2, t2, by trivial, hx.ok, by omega, after_gv ht hx.ok hN hp hG, ⟨rfl, hx.hd, hs.fm, fun x hxx => ?_⟩⟩
  rcases hx.fp x hxx with h1 | h1
  · exact .inl (by simp only [eL, List.mem_flatMap]; exact ⟨eT b t, by simp, h1⟩)
  · exact .inr (Nat.le_trans hsz h1)
end Go.Proofs.YtkbldndbofbkcaaGreatDoor
