/- A law that only reads its arguments: from its walk to its row. | The rows' closed facts that are the program's alone, once. | The facts of a row, joined. | A law's arguments, opened: integers, texts, structs of them, slices of these. | The arguments of the laws of this seat: bytes. | The arguments of the laws about directories: births, texts. | The arguments of the law about errors of locks: a birth, a number, two texts. -/
import Derived.Test.YtkbldndbofbkcaaGreatDoorMA
import Derived.Test.YtkbldndbofbkcaaGreatDoorMB
import Derived.Test.YtkbldndbofbkcaaGreatDoorCards
import Derived.Test.YtkbldndbofbkcaaGreatDoorTie
import Derived.ProofKit
import Derived.LaidMore
import Derived.OpenShut
import Derived.Carry
import Derived.Stop.Joined
import Derived.SevenTiedAt
import Derived.Test.YtkbldndbofbkcaaGreatDoorMD
import Derived.Test.YtkbldndbofbkcaaGreatDoorME
set_option linter.unusedSimpArgs false
set_option linter.unusedVariables false
/- A law that only reads its arguments: from its walk to its row. -/
namespace Go.Proofs.YtkbldndbofbkcaaGreatDoor
open Go Go.ChangeShapes Go.WideShapes Go.RowKit
theorem own : ownKnob Tryz.prog.godebug = none := by kernel_rfl
theorem laidOut : laidOutB Tryz.prog = true := by kernel_rfl
section
variable {H : Type} {enc : TypeId × Value → H} {P : Program}
theorem kept_of_fm {W W' : World} (h : Fm [] W W') (may : MemPlace → Prop) : W.keptBut W' may := by
  refine ⟨h.os, h.output, fun i hi => ?_⟩
  rw [h.block i hi (by simp)]
  cases hq : W.heap[i]? with
  | none => trivial
  | some o => cases o <;> simp
theorem trodAll_stays (hl : laidOutB P = true) {W W' : World} {sp : Nat → Bool} : ∀ {ts : List TypeId} {vs : List Value} {ds : List (DataW H)} {ps : List MemPlace}, (∀ t ∈ ts, P.readableRec t = true ∧ t < P.types.size) →
    DataW.TrodAll enc P W 0 (fun _ => true) true ts vs ds ps → (∀ p ∈ ps, W.sameAt W' p) → (∀ p ∈ ps, sp p.block = true) → DataW.TrodAll enc P W' 0 sp true ts vs ds ps
  | [], [], [], _, _, h, _, _ => h
  | _ :: _, _ :: _, _ :: _, _, hT, ⟨p, q, h1, h2, e⟩, hs, hsp =>
    ⟨p, q, WideElems.Trod_stays hl (hT _ (List.mem_cons.2 (.inl rfl))).1 (hT _ (List.mem_cons.2 (.inl rfl))).2 h1 (fun x hx => hs x (by rw [e]; exact List.mem_append_left _ hx)) (fun x hx => hsp x (by rw [e]; exact List.mem_append_left _ hx)),
      trodAll_stays hl (fun t ht => hT t (List.mem_cons.2 (.inr ht))) h2 (fun x hx => hs x (by rw [e]; exact List.mem_append_right _ hx)) (fun x hx => hsp x (by rw [e]; exact List.mem_append_right _ hx)), e⟩
/-- The call returned true, and of what was there nothing has turned. -/
theorem post_read {f : Func} {s : ChangeSpec} {fresh handsOn again : Bool} {W W' : World} {args : Array Value} {ds gs : List (DataW H)} {before : List MemPlace} {b : TypeId} (hb : P.underlying b = some .bool) (hv : s.vars = []) (hrt : f.resultTypes = #[b]) (hl : laidOutB P = true)
    (hT : ∀ t ∈ f.params.toList, P.readableRec t = true ∧ t < P.types.size) (hW : DataW.Whole enc P f.params.toList s.vars false W args.toList ds gs before) (hfn : s.fn H (ds ++ gs) = { results := [.lit (.bool true)], args := ds }) (h : Fm [] W W') :
    s.post enc P f false fresh handsOn again W args (.bool true) W' := by
  have hlt := hW.lt
  have hW0 := hW
  obtain ⟨p, q, hA, hV, rfl, hz, hn⟩ := hW
  rw [hv] at hV
  obtain ⟨rfl, rfl⟩ := trodVars_none hV
  rw [List.append_nil] at hlt hz hW0
  have hsame : ∀ x ∈ p, W.sameAt W' x := fun x hx => h.below.same (hlt x hx)
  have hres : ∀ (bb : Nat) (sp : Nat → Bool) (hd : Bool), DataW.TrodAll enc P W' bb sp hd f.resultTypes.toList ((Value.bool true).resultList f.resultTypes.size) [.lit (.bool true)] [] := by
    intro bb sp hd
    rw [hrt]
    exact trodAll_mk1 (shut_bool hb true)
  have hargs : ∀ sp : Nat → Bool, (∀ x ∈ p, sp x.block = true) → DataW.TrodAll enc P W' 0 sp true f.params.toList args.toList ds p := fun sp hsp => trodAll_stays hl hT hA hsame hsp
  refine ⟨ds, [], p, [], p, [], by rw [hv] at hW0 ⊢; exact hW0, by rw [hfn]; exact hres _ _ _, by rw [hfn]; exact hargs _ (fun x hx => by simpa using hlt x hx), by rw [hfn, hv]; rfl, kept_of_fm h _, fun _ => ⟨ok_one hrt rfl (okWide_bool_mk hb true), .lit (.bool true) :: ds, [], p, ?_, fun _ hx _ => hx⟩⟩
  refine ⟨p, [], ?_, by rw [hv]; rfl, by simp, fun bb off hp => ?_, fun hq => by cases hq⟩
  · have := trodAll_append (hargs (fun _ => true) (fun _ _ => rfl)) (hres 0 (fun _ => true) true)
    simpa using this
  · have h1 := hz bb off hp
    have h2 := hlt _ hp
    have h3 : W'.heap[bb]? = W.heap[bb]? := h.block bb h2 (by simp)
    unfold World.frozen? at h1 ⊢
    rw [h3]; exact h1
end
abbrev laid5 {H : Type} : List (String × DataW H) := [("math/bits.deBruijn32tab", Rows.laid_math_bits_deBruijn32tab), ("math/bits.deBruijn64tab", Rows.laid_math_bits_deBruijn64tab), ("internal/strconv.uint64pow10", Rows.laid_internal_strconv_uint64pow10), ("strconv.ErrRange", Rows.laid_strconv_ErrRange), ("strconv.ErrSyntax", Rows.laid_strconv_ErrSyntax)]
/-- The door's own heap meets the condition. -/
theorem door_met (os : Os) (args : Array Value) : laidMetH Tryz.prog laid5 ((World.doorLaid Tryz.prog 400 os).forCall (fun _ _ => 0) ⟨#[], args, []⟩).memory :=
  laidMetH_of_parts3 (fuel := 8) (laidMet_of_run' 8 (by kernel_rfl) (by kernel_rfl)) (by kernel_rfl) (by kernel_rfl)
theorem door_shaped (os : Os) : True := trivial
/-- What a walk shows. -/
theorem law_calls {H : Type} {enc : TypeId × Value → H} {f : FuncId} {fn : Func} {s : ChangeSpec} {fresh handsOn again : Bool} {W : World} {args : Array Value} {ds gs : List (DataW H)} {before : List MemPlace} (hv : s.vars = []) (hrt : fn.resultTypes = #[4])
    (hT : ∀ t ∈ fn.params.toList, Tryz.prog.readableRec t = true ∧ t < Tryz.prog.types.size) (hW : DataW.Whole enc Tryz.prog fn.params.toList s.vars false W args.toList ds gs before) (hfn : s.fn H (ds ++ gs) = { results := [.lit (.bool true)], args := ds })
    (h : Ret Tryz.prog f args W fun v W' => v = .bool true ∧ Fm [] W W') : Calls Tryz.prog f args W fun e W' => ∃ v, e = .returned v ∧ s.post enc Tryz.prog fn false fresh handsOn again W args v W' :=
  Calls.mono h fun _ _ ⟨v, he, hv', hf⟩ => ⟨.bool true, by rw [he, hv'], post_read Tryz.underlying4 hv hrt laidOut hT hW hfn hf⟩
end Go.Proofs.YtkbldndbofbkcaaGreatDoor
/- The rows' closed facts that are the program's alone, once. -/
namespace Go.Proofs.YtkbldndbofbkcaaGreatDoor
open Go Go.ChangeShapes Go.WideShapes Go.RowKit
theorem p_maps : mapsRowed Tryz.prog = true := by kernel_rfl
theorem p_stops : (Tryz.prog.stops == []) = true := by kernel_rfl
theorem p_knobs : (Tryz.prog.stopKnobs == []) = true := by kernel_rfl
theorem p_heard : Tryz.prog.stopsHeard = true := by kernel_rfl
theorem p_enter : Tryz.prog.mayEnter = true := by kernel_rfl
theorem p_lift : (Rows.lockDecodesRow.lifted == Tryz.prog.liftsFinal) = true := by kernel_rfl
theorem p_make : (Tryz.prog.make == some Rows.lockDecodesRow.make) = true := by kernel_rfl
theorem p_keys : (false == Tryz.prog.plainKeys) = true := by kernel_rfl
end Go.Proofs.YtkbldndbofbkcaaGreatDoor
/- The facts of a row, joined. -/
namespace Go.Proofs.YtkbldndbofbkcaaGreatDoor
open Go Go.ChangeShapes Go.WideShapes Go.RowKit
set_option maxRecDepth 100000 in
theorem joined_of {P : Program} {f : FuncId} {fn : Func} {s : ChangeSpec} {c : OpenClaim}
    (h1 : c.wf (OpenSpec.ofChange s) = true) (h2 : laidOutB P = true) (h3 : mapsRowed P = true) (h4 : fn.params.all (P.readableRec ·) = true) (h5 : namedTie P c.named s.vars = true)
    (h6 : (c.stops == []) = true) (h7 : (P.stops == []) = true) (h8 : (c.knobs == []) = true) (h9 : (P.stopKnobs == []) = true)
    (h10 : (c.inPlace == P.inPlace f) = true) (h11 : (c.unfollowed == P.unfollowed f) = true) (h12 : (c.recurses == P.recurses f) = true) (h13 : (c.named == P.varsNamed f) = true)
    (h14 : (c.maps == (fn.params.toList ++ s.plain.varTypes P).any (P.mapsRec ·)) = true) (h15 : (c.ifaces == (fn.params.toList ++ s.plain.varTypes P).any (P.ifacesRec ·)) = true) (h16 : (c.mapsOut == P.mapsAmong fn.resultTypes.toList) = true)
    (h17 : (c.loops == (fn.params.toList ++ s.plain.varTypes P).any (P.loopsFrom ·)) = true) (h18 : (c.wideKeys == (fn.params.toList ++ s.plain.varTypes P ++ fn.resultTypes.toList).any (P.wideKeysFrom ·)) = true)
    (h19 : s.vars.all (P.varReadable ·) = true) (h20 : fn.resultTypes.all (fun t => P.readableRec t && decide (t < P.types.size)) = true) (h21 : (c.ifacesOut == fn.resultTypes.toList.any (P.ifacesRec ·)) = true) (h22 : (c.loopsOut == fn.resultTypes.toList.any (P.loopsFrom ·)) = true)
    (h23 : (c.plainKeys == P.plainKeys) = true) (h24 : c.shortTexts.isNone = true) (h25 : P.stopsHeard = true) (h26 : P.mayEnter = true) (h27 : (c.lifted == P.liftsFinal) = true) (h28 : (P.make == some c.make) = true)
    (h29 : c.domain = []) (h29b : c.kinds = []) (h30 : (c.pinned == c.pinnedBy) = true)
    (h31 : (c.veiled == (fn.params.toList ++ s.plain.varTypes P ++ fn.resultTypes.toList).any (P.veiledRec ·)) = true) (h32 : c.veiledFits P fn.params.toList (fn.params.toList ++ s.plain.varTypes P ++ fn.resultTypes.toList) = true) : joinedFacts P f fn s c = true := by
  unfold joinedFacts
  rw [h1, h2, h3, h4, h5, h6, h7, h8, h9, h10, h11, h12, h13, h14, h15, h16, h17, h18, h19, h20, h21, h22, h23, h24, h25, h26, h27, h28, h30, h31, h32, h29, h29b]
  rfl
theorem p_looks : true = Tryz.prog.looks [] := by kernel_rfl
theorem p_main : Tryz.prog.mainIs = some ((true, "2a6453758fad6cc53dd7f591497998820b78589a43cd8ac577ef6ff2b26842bc").1, (true, "2a6453758fad6cc53dd7f591497998820b78589a43cd8ac577ef6ff2b26842bc").2.toList) := by kernel_rfl
end Go.Proofs.YtkbldndbofbkcaaGreatDoor
/- A law's arguments, opened: integers, texts, structs of them, slices of these. -/
namespace Go.Proofs.YtkbldndbofbkcaaGreatDoor
open Go Go.ChangeShapes Go.WideShapes Go.RowKit
section
variable {H : Type} {enc : TypeId × Value → H} {P : Program} {w : World} {base : Nat} {sp : Nat → Bool} {held : Bool} {fuel : Nat} {t : TypeId} {cs : List Value} {x : DataW H × List MemPlace}
theorem trod_i {k : IntKind} (ht : P.underlying t = some (.int k)) (h : DataW.trod enc P w base sp held fuel t cs = some x) : ∃ n : Int, cs = [.int k n] ∧ (Lit.int k n).wf = true := by
  cases fuel with
  | zero => simp [DataW.trod] at h
  | succ n =>
    unfold DataW.trod at h
    split at h <;> rw [ht] at * <;> simp_all
theorem trod_b (ht : P.underlying t = some .bool) (h : DataW.trod enc P w base sp held fuel t cs = some x) : ∃ b : Bool, cs = [.bool b] := by
  cases fuel with
  | zero => simp [DataW.trod] at h
  | succ n =>
    unfold DataW.trod at h
    split at h <;> rw [ht] at * <;> simp_all
theorem trod_s (ht : P.underlying t = some .string) (h : DataW.trod enc P w base sp held fuel t cs = some x) : ∃ s : ByteArray, cs = [.string s] ∧ s.size ≤ maxLen := by
  cases fuel with
  | zero => simp [DataW.trod] at h
  | succ n =>
    unfold DataW.trod at h
    split at h <;> rw [ht] at * <;> simp_all
theorem flat_len {U : Type} {ec : U → List Value} {m : Nat} : ∀ (us : List U), (∀ u ∈ us, (ec u).length = m) → (us.flatMap ec).length = us.length * m
  | [], _ => by simp
  | u :: us, h => by
    rw [List.flatMap_cons, List.length_append, flat_len us (fun v hv => h v (List.mem_cons.2 (.inr hv))), h u (List.mem_cons.2 (.inl rfl)), List.length_cons, Nat.add_mul]
    omega
theorem flat_get {U : Type} {ec : U → List Value} {m : Nat} : ∀ (us : List U), (∀ u ∈ us, (ec u).length = m) → ∀ (j : Nat) (v : Value), (us.flatMap ec)[j]? = some v → ∃ i u r, us[i]? = some u ∧ r < m ∧ (ec u)[r]? = some v ∧ j = i * m + r
  | [], _, j, v, h => by simp at h
  | u :: us, hl, j, v, h => by
    have h0 := hl u (List.mem_cons.2 (.inl rfl))
    rw [List.flatMap_cons] at h
    by_cases hj : j < m
    · rw [List.getElem?_append_left (by omega)] at h
      exact ⟨0, u, j, rfl, hj, h, by omega⟩
    · rw [List.getElem?_append_right (by omega)] at h
      obtain ⟨i, u', r, h1, h2, h3, h4⟩ := flat_get us (fun v hv => hl v (List.mem_cons.2 (.inr hv))) _ v h
      exact ⟨i + 1, u', r, h1, h2, h3, by rw [Nat.add_mul]; omega⟩
theorem add_add {b off p q : Nat} : (Addr.add ⟨b, off, none⟩ p).add q = ⟨b, off + p + q, none⟩ := by
  unfold Addr.add
  split <;> split <;> simp_all
theorem trod_sl {e : TypeId} {U : Type} (ec : U → List Value) (ok : U → Prop) {m : Nat} (ht : P.underlying t = some (.slice e)) (hm : P.cellsOf e = m) (hpos : 0 < m)
    (hel : ∀ fuel cs' y, DataW.trod enc P w base sp held fuel e cs' = some y → ∃ u : U, ok u ∧ cs' = ec u) (h : DataW.trod enc P w base sp held fuel t cs = some x) :
    ∃ (a : Option Addr) (n c : Nat) (us : List U), cs = [.slice a n c] ∧ n = us.length ∧ n ≤ c ∧ c ≤ maxLen ∧ (∀ u ∈ us, ok u) ∧ Rd w a n m (us.flatMap ec) := by
  rcases DataW.trod_slice ht h with ⟨hcs, _⟩ | ⟨a, len, cap, elems, rest, n, _, hcs, _, hb, hl, hmx, hlen, hE, _⟩
  · exact ⟨none, 0, 0, [], hcs, rfl, Nat.le_refl _, by simp, by simp, by simp, by simp⟩
  · have key : ∀ i : Fin len, ∃ u : U, ok u ∧ w.cells? base (a.add (i.val * m)) m = some (ec u) := fun i => by
      have h1 := hE i.val i.isLt
      rw [hm, List.getElem?_eq_getElem (by omega)] at h1
      obtain ⟨cs', h2, h3⟩ := Option.bind_eq_some_iff.1 h1
      obtain ⟨u, h4, rfl⟩ := hel _ _ _ h3
      exact ⟨u, h4, h2⟩
    let us : List U := List.ofFn fun i => Classical.choose (key i)
    have hus : ∀ (i : Nat) u, us[i]? = some u → ok u ∧ w.cells? base (a.add (i * m)) m = some (ec u) := fun i u hi => by
      have hlt : i < len := by have := (List.getElem?_eq_some_iff.1 hi).1; simpa [us] using this
      have : u = Classical.choose (key ⟨i, hlt⟩) := by
        have := (List.getElem?_eq_some_iff.1 hi).2
        simpa [us] using this.symm
      rw [this]
      exact Classical.choose_spec (key ⟨i, hlt⟩)
    have hul : us.length = len := by simp [us]
    have hmem : ∀ u ∈ us, ∃ i, us[i]? = some u := fun u hu => List.mem_iff_getElem?.1 hu
    have hlm : ∀ u ∈ us, (ec u).length = m := fun u hu => by
      obtain ⟨i, hi⟩ := hmem u hu
      exact (World.cells?_some (hus i u hi).2).2.1
    refine ⟨some a, len, cap, us, hcs, hul.symm, hl, hmx, fun u hu => by obtain ⟨i, hi⟩ := hmem u hu; exact (hus i u hi).1, by rw [flat_len us hlm, hul], fun hne => ?_⟩
    obtain ⟨b, off, spot⟩ := a
    have hne2 : us ≠ [] := fun q => hne (by rw [q]; rfl)
    have h0 : 0 < us.length := List.length_pos_iff.2 hne2
    have hspot : spot = none := by
      have h1 := (World.cells?_some (hus 0 us[0] (List.getElem?_eq_getElem h0)).2).2.2 0 hpos
      have h2 : (ec us[0])[0]? ≠ none := by
        have := hlm us[0] (List.getElem_mem _)
        rw [List.getElem?_eq_getElem (by omega)]; simp
      rw [← h1] at h2
      simp only [Addr.add, Nat.zero_mul, if_pos, World.cell?] at h2
      cases spot with
      | none => rfl
      | some q => simp at h2; split at h2 <;> simp at h2
    subst hspot
    refine ⟨b, off, rfl, fun j u hj => ?_⟩
    obtain ⟨i, v, r, h1, h2, h3, rfl⟩ := flat_get us hlm j u hj
    have h4 := (World.cells?_some (hus i v h1).2).2.2 r h2
    rw [add_add, h3] at h4
    rw [← h4]; congr 2; omega
end
end Go.Proofs.YtkbldndbofbkcaaGreatDoor
/- The arguments of the laws of this seat: bytes. -/
namespace Go.Proofs.YtkbldndbofbkcaaGreatDoor
open Go Go.ChangeShapes Go.WideShapes Go.RowKit
set_option maxRecDepth 100000
section
variable {H : Type} {enc : TypeId × Value → H} {w : World} {base base' : Nat} {sp : Nat → Bool} {held : Bool} {r : Reach} {v : Value} {d : DataW H} {ps : List MemPlace}
theorem arg_u8 (hval : Value.okWide Tryz.prog w r base' 5 v) (hd : DataW.Trod enc Tryz.prog w base sp held 5 v d ps) : ∃ k : Nat, v = .int .u8 k ∧ k < 256 := by
  obtain ⟨n, rfl, _, _, hn⟩ := open_int Tryz.underlying5 hval hd
  have h2 : 0 ≤ n ∧ n ≤ 255 := by simpa [Lit.wf, IntKind.min, IntKind.max, IntKind.has, IntKind.bits, IntKind.signed] using hn
  exact ⟨n.toNat, by congr 1; omega, by omega⟩
theorem el_u8 : ∀ fuel cs' y, DataW.trod enc Tryz.prog w base sp held fuel 5 cs' = some y → ∃ u : UInt8, True ∧ cs' = [.int .u8 u.toNat] := fun fuel cs' y h => by
  obtain ⟨n, rfl, hn⟩ := trod_i Tryz.underlying5 h
  have h2 : 0 ≤ n ∧ n ≤ 255 := by simpa [Lit.wf, IntKind.min, IntKind.max, IntKind.has, IntKind.bits, IntKind.signed] using hn
  refine ⟨UInt8.ofNat n.toNat, trivial, ?_⟩
  have : ((UInt8.ofNat n.toNat).toNat : Int) = n := by
    rw [UInt8.toNat_ofNat']; omega
  rw [this]
theorem bytes_bv (us : List UInt8) : us.flatMap (fun u => [Value.int .u8 u.toNat]) = bv us := by
  unfold bv; induction us <;> simp_all
end
end Go.Proofs.YtkbldndbofbkcaaGreatDoor
/- The arguments of the laws about directories: births, texts. -/
namespace Go.Proofs.YtkbldndbofbkcaaGreatDoor
open Go Go.ChangeShapes Go.WideShapes Go.RowKit
set_option maxRecDepth 100000
section
variable {H : Type} {enc : TypeId × Value → H} {w : World} {base base' : Nat} {sp : Nat → Bool} {held : Bool} {r : Reach} {v : Value} {d : DataW H} {ps : List MemPlace}
theorem el_rb : ∀ fuel cs' y, DataW.trod enc Tryz.prog w base sp held fuel 80 cs' = some y → ∃ b : Bir, True ∧ cs' = birV b := fun fuel cs y h => by
  obtain ⟨xs, m, _, _, hl, hlen, hf⟩ := DataW.trod_struct Tryz.underlying80 h
  rw [show Tryz.prog.cellsOf 80 = 2 by kernel_rfl] at hl
  replace hlen : xs.length = 2 := hlen
  match cs, hl with
  | [c0, c1], _ =>
    have g0 := (hf 0 _ rfl).trans (List.getElem?_eq_getElem (by omega))
    have g1 := (hf 1 _ rfl).trans (List.getElem?_eq_getElem (by omega))
    rw [show Tryz.prog.cellsOf _ = 1 by kernel_rfl] at g0 g1
    obtain ⟨t, e0, _⟩ := trod_s Tryz.underlying9 g0
    obtain ⟨n, e1, _⟩ := trod_i Tryz.underlying3 g1
    refine ⟨⟨t, n⟩, trivial, ?_⟩
    injection e0 with e0; injection e1 with e1
    subst e0 e1
    rfl
theorem arg_rb (hval : Value.okWide Tryz.prog w r base' 80 v) (hd : DataW.Trod enc Tryz.prog w base sp held 80 v d ps) : ∃ b : Bir, v = .agg (birV b).toArray := by
  obtain ⟨cs, rfl, hsz⟩ := okWide_struct Tryz.underlying80 hval
  obtain ⟨fuel, h⟩ := hd
  obtain ⟨b, _, e⟩ := el_rb _ _ _ h
  obtain ⟨cs⟩ := cs
  replace e : cs = birV b := e
  subst e
  exact ⟨b, rfl⟩
theorem cells_sl {P : Program} {t e : TypeId} (ht : P.underlying t = some (.slice e)) (hval : Value.okWide P w r base' t v) : v.cells.toList = [v] := by
  unfold Value.okWide at hval
  rw [ht] at hval
  unfold Cell.okWide at hval
  cases v <;> simp_all [Value.cells, Cell.ok]
theorem el_s : ∀ fuel cs' y, DataW.trod enc Tryz.prog w base sp held fuel 9 cs' = some y → ∃ s : ByteArray, True ∧ cs' = [.string s] := fun fuel cs y h => by
  obtain ⟨t, e0, _⟩ := trod_s Tryz.underlying9 h
  exact ⟨t, trivial, e0⟩
theorem strs_sv (us : List ByteArray) : us.flatMap (fun u => [Value.string u]) = sv us := by
  unfold sv; induction us <;> simp_all
theorem arg_strs (hval : Value.okWide Tryz.prog w r base' 66 v) (hd : DataW.Trod enc Tryz.prog w base sp held 66 v d ps) :
    ∃ (a : Option Addr) (n c : Nat) (us : List ByteArray), v = .slice a n c ∧ n = us.length ∧ Rd w a n 1 (sv us) := by
  obtain ⟨fuel, h⟩ := hd
  rw [cells_sl Tryz.underlying66 hval] at h
  obtain ⟨a, n, c, us, e, hn, _, _, _, hr⟩ := trod_sl (m := 1) (fun u : ByteArray => [Value.string u]) (fun _ => True) Tryz.underlying66 (by kernel_rfl) (by decide) el_s h
  injection e with e
  rw [strs_sv] at hr
  exact ⟨a, n, c, us, e, hn, hr⟩
end
end Go.Proofs.YtkbldndbofbkcaaGreatDoor
/- The arguments of the law about errors of locks: a birth, a number, two texts. -/
namespace Go.Proofs.YtkbldndbofbkcaaGreatDoor
open Go Go.ChangeShapes Go.WideShapes Go.RowKit
set_option maxRecDepth 100000
section
variable {H : Type} {enc : TypeId × Value → H} {w : World} {base base' : Nat} {sp : Nat → Bool} {held : Bool} {r : Reach} {v : Value} {d : DataW H} {ps : List MemPlace}
theorem okWide_arr {P : Program} {n : Nat} {t e : TypeId} (ht : P.underlying t = some (.array n e)) (h : Value.okWide P w r base t v) : ∃ cs, v = .agg cs ∧ cs.size = P.cellsOf t := by
  simp only [Value.okWide, ht] at h
  obtain ⟨cs, h1, h2, _⟩ := h
  exact ⟨cs, h1, h2⟩
theorem arg_bir (hval : Value.okWide Tryz.prog w r base' 44 v) (hd : DataW.Trod enc Tryz.prog w base sp held 44 v d ps) : ∃ b : Bir, v = .agg (birV b).toArray ∧ b.maker.size ≤ maxLen := by
  obtain ⟨cs, rfl, hsz⟩ := okWide_struct Tryz.underlying44 hval
  obtain ⟨fuel, h⟩ := hd
  obtain ⟨xs, m, _, _, hl, hlen, hf⟩ := DataW.trod_struct Tryz.underlying44 h
  obtain ⟨cs⟩ := cs
  rw [show Tryz.prog.cellsOf 44 = 2 by kernel_rfl] at hl
  replace hlen : xs.length = 2 := hlen
  simp only [Value.cells] at hl hf
  match cs, hl with
  | [c0, c1], _ =>
    have g0 := (hf 0 _ rfl).trans (List.getElem?_eq_getElem (by omega))
    have g1 := (hf 1 _ rfl).trans (List.getElem?_eq_getElem (by omega))
    rw [show Tryz.prog.cellsOf _ = 1 by kernel_rfl] at g0 g1
    obtain ⟨t, e0, ht⟩ := trod_s Tryz.underlying42 g0
    obtain ⟨n, e1, _⟩ := trod_i Tryz.underlying3 g1
    injection e0 with e0; injection e1 with e1
    subst e0 e1
    exact ⟨⟨t, n⟩, rfl, ht⟩
theorem arg_s2 (hval : Value.okWide Tryz.prog w r base' 89 v) (hd : DataW.Trod enc Tryz.prog w base sp held 89 v d ps) : ∃ s t : ByteArray, v = .agg #[.string s, .string t] ∧ s.size ≤ maxLen ∧ t.size ≤ maxLen := by
  obtain ⟨cs, rfl, hsz⟩ := okWide_arr Tryz.underlying89 hval
  obtain ⟨fuel, h⟩ := hd
  obtain ⟨xs, m, _, _, hl, hlen, hf⟩ := DataW.trod_array Tryz.underlying89 h
  obtain ⟨cs⟩ := cs
  rw [show Tryz.prog.cellsOf 89 = 2 by kernel_rfl] at hl
  simp only [Value.cells] at hl hf
  match cs, hl with
  | [c0, c1], _ =>
    have g0 := (hf 0 (by decide)).trans (List.getElem?_eq_getElem (by omega))
    have g1 := (hf 1 (by decide)).trans (List.getElem?_eq_getElem (by omega))
    rw [show Tryz.prog.cellsOf 9 = 1 by kernel_rfl] at g0 g1
    obtain ⟨t, e0, ht⟩ := trod_s Tryz.underlying9 g0
    obtain ⟨u, e1, hu⟩ := trod_s Tryz.underlying9 g1
    injection e0 with e0; injection e1 with e1
    subst e0 e1
    exact ⟨t, u, rfl, ht, hu⟩
theorem arg_int (hval : Value.okWide Tryz.prog w r base' 3 v) (hd : DataW.Trod enc Tryz.prog w base sp held 3 v d ps) : ∃ n : Int, v = .int .i64 n := by
  obtain ⟨n, rfl, _, _, hn⟩ := open_int Tryz.underlying3 hval hd
  exact ⟨n, rfl⟩
end
end Go.Proofs.YtkbldndbofbkcaaGreatDoor
