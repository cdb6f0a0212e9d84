/- The engine, part A: a calculus for Go code over frames that are functions; rules for control and for single operations. | The engine, part B: what is known of the memory; facts on types as instances; rules for operations. | The engine, part C: rules for operations. | The engine, part D: rules for memory, slices, calls, results. | The engine, part E: pieces found by instances; structs and slices that are built; append; strings and bytes. | The engine, part F: append, strings and bytes, more slicing. | The engine, part G: the rules under short names, as a walk uses them; regions that draw their order. | The engine, part H: guards that are known, results out of memory, pieces dropped, one element appended. | The engine, part I: regions that draw their order. One order is walked; the operations that only read are shown to yield the same wherever they come. | The engine, part J: pieces that stay while another one turns. | The engine, part K: a range over a function: the iterator's contract over whatever the caller holds; the statement; a call of yield. | The engine, part L: pieces taken together. | The engine, part M: maps. | The engine, part N: ranges over strings. | The engine, part O: copy, clear, append in place, append of zeros, overlaps; for elements of one cell. | The engine, part P: slices that are only read, as a piece. -/
import Derived.WalkKit
import Derived.OrdersHeld
import Derived.Laws.Tables
import Derived.Laws.Rows
import Derived.RangeFuncNested
import Derived.RangeFuncBound
import Derived.OrdersIn
import Derived.Laws.AppendOwnNone
import Derived.Lib.ConvBytes
import Derived.Lib.AppendStr
import Derived.MapKept
import Derived.Lib.Overlaps
import Derived.Lib.AppendZerosOnto
set_option linter.unusedSimpArgs false
set_option linter.unusedVariables false
/- The engine, part A: a calculus for Go code over frames that are functions; rules for control and for single operations. -/
namespace Go.Proofs.YtkbldndbofbkcaaGreatDoor
open Go Go.RowKit

/-! ### frames -/
abbrev Fr := Nat → Value
def upd (f : Fr) (i : Nat) (v : Value) : Fr := fun j => bif j.beq i then v else f j
theorem upd_ap (f : Fr) (i : Nat) (v : Value) (j : Nat) : upd f i v j = if j = i then v else f j := by
  unfold upd
  by_cases h : j = i
  · subst h; simp
  · rw [if_neg h]
    have e : j.beq i = false := by
      cases hb : j.beq i
      · rfl
      · exact absurd (Nat.eq_of_beq_eq_true hb) h
    rw [e]; rfl
/-- Of what make the frame is: within a round of a range over a function or not; the calls that are deferred. -/
structure Cx where
  ro : Option Nat
  ds : List Deferred
def X0 : Cx := ⟨none, []⟩
def Cx.F (X : Cx) : Fence := { Fence.wide with round := X.ro }
def FA (X : Cx) (N : Nat) (f : Fr) : Act := ⟨Array.ofFn (n := N) (fun i => f i.val), X.ds⟩
def ev (N : Nat) (f : Fr) : Operand → Value
  | .tmp t => bif t.blt N then f t else undef
  | .const v => v
  | .global g => .pointer (some ⟨g, 0, none⟩)
  | .func k => .func (.func k) #[] #[]
theorem ev_tmp (N : Nat) (f : Fr) (t : Nat) : ev N f (.tmp t) = if t < N then f t else undef := by
  show (bif t.blt N then f t else undef) = _
  by_cases h : t < N
  · rw [if_pos h, show t.blt N = true from by simpa [Nat.blt_eq] using h]; rfl
  · rw [if_neg h]
    have e : t.blt N = false := by
      cases hb : t.blt N
      · rfl
      · exact absurd (by simpa [Nat.blt_eq] using hb) h
    rw [e]; rfl
theorem ev_const (N : Nat) (f : Fr) (v : Value) : ev N f (.const v) = v := rfl
theorem ev_func (N : Nat) (f : Fr) (k : Nat) : ev N f (.func k) = .func (.func k) #[] #[] := rfl
theorem ev_global (N : Nat) (f : Fr) (g : Nat) : ev N f (.global g) = .pointer (some ⟨g, 0, none⟩) := rfl

theorem FA_get (X : Cx) (N : Nat) (f : Fr) (t : Nat) : (FA X N f).tmps.getD t undef = if t < N then f t else undef := by
  unfold FA
  by_cases h : t < N
  · simp [Array.getD, h]
  · simp [Array.getD, h]
theorem FA_get? (X : Cx) (N : Nat) (f : Fr) (t : Nat) : (FA X N f).tmps[t]? = if t < N then some (f t) else none := by
  unfold FA
  by_cases h : t < N <;> simp [h]
theorem FA_eval (X : Cx) (N : Nat) (f : Fr) : (FA X N f).eval = ev N f := by
  funext x
  cases x with
  | tmp t => exact (FA_get X N f t).trans (ev_tmp N f t).symm
  | const v => rfl
  | global g => rfl
  | func k => rfl
theorem FA_put (X : Cx) (N : Nat) (f : Fr) (d : Nat) (v : Value) : (FA X N f).put (some d) v = FA X N (upd f d v) := by
  unfold FA Act.put
  simp only [Act.mk.injEq, and_true]
  apply Array.ext
  · simp
  · intro i h1 h2
    simp at h1
    simp only [Array.getElem_ofFn, upd_ap]
    by_cases h : i = d
    · subst h; simp
    · rw [Array.getElem_setIfInBounds_ne (by simpa using h1) (Ne.symm h)]; simp [h]
theorem FA_put_none (X : Cx) (N : Nat) (f : Fr) (v : Value) : (FA X N f).put none v = FA X N f := rfl
theorem upd_self {f : Fr} {i : Nat} {v : Value} (h : f i = v) : upd f i v = f := by
  funext j; rw [upd_ap]; split
  · subst_vars; rfl
  · rfl

/-! ### what is walked outside holds in a round -/
def ndf (o : Oper) : Bool := match o.op with | .defer _ => false | _ => true
theorem callsIn_cx (X : Cx) (n : Nat) {P : Program} {k : FuncId} {args : Array Value} {w : World} {R : Ending → World → Prop} (h : Calls P k args w R) : CallsIn X.F n P k args w R := (callsIn_wide (n := n)).2 h
theorem rowsIn_cx (X : Cx) (n : Nat) {P : Program} {row : String} {args : Array Value} {w : World} {R : Value → World → Prop} (h : Rows P row args w R) : RowsIn X.F n P row args w R :=
  fun c cs _ => let ⟨v, w', r, s⟩ := h c cs; ⟨v, w', r, (show StepsIn (Machine.fenced P Fence.wide) P _ _ from stepsIn_wide.2 s)⟩
theorem op_in (X : Cx) (n : Nat) {P : Program} {o : Oper} {a : Act} {w : World} {K : Act → World → Prop} {Q : Exit → Act → World → Prop} (hd : ndf o = true) (h : o.wp P a w K Q) : o.wpIn X.F n P a w K Q := by
  refine ⟨fun _ _ => trivial, ?_⟩
  rw [Oper.semAt_eq _ _ _ (fun c hc => by simp [ndf, hc] at hd)]
  unfold Oper.wp at h
  generalize (execOp a.eval o).run P w = r at h ⊢
  cases r with
  | ok nx w' =>
    cases nx with
    | enter k args => exact ⟨fun h => by simp [Cx.F, Fence.wide] at h, callsIn_cx X _ h⟩
    | row k args => exact ⟨fun h => by simp [Cx.F, Fence.wide] at h, rowsIn_cx X _ h⟩
    | value v => exact h
    | skip => exact h
    | _ => first | exact h | exact h.elim
  | halt x w' => cases x <;> first | exact h | exact h.elim
theorem list_in (X : Cx) (n : Nat) {P : Program} {ops : Array Oper} {Q : Exit → Act → World → Prop} (hQ : ∀ a w, ¬ Q .outgrown a w) : ∀ (l : List Oper) (a : Act) (w : World), l.all ndf = true → wpList P ops Q l a w → wpListIn X.F n P ops Q l a w
  | [], _, _, _, h => h
  | o :: l, a, w, hd, h => by
    simp only [List.all_cons, Bool.and_eq_true] at hd
    unfold wpList at h
    unfold wpListIn
    split
    · rename_i hw
      rw [if_pos hw] at h
      rcases h with h | ⟨_, a', w', h⟩
      · exact Oper.wpIn_mono (fun a w h => list_in X n hQ l a w hd.2 h) (op_in X n hd.1 h)
      · exact absurd h (hQ a' w')
    · rename_i hw
      rw [if_neg hw] at h
      exact ⟨fun _ _ => trivial, list_in X n hQ l _ w hd.2 h⟩
theorem any_in (X : Cx) (n : Nat) {P : Program} {ops : Array Oper} {Q : Exit → Act → World → Prop} (hQ : ∀ a w, ¬ Q .outgrown a w) (hd : ops.all ndf = true) : ∀ (m : Nat) (L : Array Bool) (a : Act) (w : World), wpAny P .any ops Q m L a w → wpAnyIn X.F n P .any ops Q m L a w
  | 0, _, _, _, h => h
  | m + 1, L, a, w, h => ⟨h.1, fun i hi => by
      have h1 := h.2 i hi
      unfold wpOp at h1
      unfold wpOpIn
      cases ho : ops[i]? with
      | none => simp only [ho] at h1 ⊢; exact any_in X n hQ hd m _ a w h1
      | some o =>
        simp only [ho] at h1 ⊢
        have hdo : ndf o = true := by
          obtain ⟨hlt, he⟩ := Array.getElem?_eq_some_iff.1 ho
          rw [← he]; exact Array.all_eq_true.1 hd i hlt
        split
        · rename_i hw
          rw [if_pos hw] at h1
          rcases h1 with h1 | ⟨_, a', w', h1⟩
          · exact Oper.wpIn_mono (fun a w h => any_in X n hQ hd m _ a w h) (op_in X n hdo h1)
          · exact absurd h1 (hQ a' w')
        · rename_i hw
          rw [if_neg hw] at h1
          exact ⟨fun _ _ => trivial, any_in X n hQ hd m _ _ w h1⟩⟩
/-! ### code -/
def QA (X : Cx) (N : Nat) (Q : Exit → Fr → World → Prop) : Exit → Act → World → Prop
  | .panic _, _, _ => False
  | .outgrown, _, _ => False
  | e, a, w => ∃ f, a = FA X N f ∧ Q e f w
def CW (X : Cx) (P : Program) (N : Nat) (c : Code) (Q : Exit → Fr → World → Prop) (f : Fr) (w : World) : Prop := c.wpIn X.F 9 P (QA X N Q) (FA X N f) w
def thenF (K : Fr → World → Prop) (Q : Exit → Fr → World → Prop) : Exit → Fr → World → Prop
  | .normal, f, w => K f w
  | e, f, w => Q e f w
def blockF (id : Nat) (Q : Exit → Fr → World → Prop) : Exit → Fr → World → Prop
  | .exit id', f, w => if id' = id then Q .normal f w else Q (.exit id') f w
  | e, f, w => Q e f w
section
variable {X : Cx} {P : Program} {N : Nat} {Q : Exit → Fr → World → Prop} {f : Fr} {w : World}
theorem CW_mono {c : Code} {Q' : Exit → Fr → World → Prop} (hq : ∀ e f w, Q e f w → Q' e f w) (h : CW X P N c Q f w) : CW X P N c Q' f w :=
  wpIn_mono h (by
    intro e a w h
    cases e <;> first
      | exact h
      | (obtain ⟨f, rfl, h⟩ := h; exact ⟨f, rfl, hq _ _ _ h⟩))
theorem CW_kn {c : Code} {i : Nat} {v : Value} (h : f i = v) (k : CW X P N c Q (upd f i v) w) : CW X P N c Q f w := by rw [upd_self h] at k; exact k
theorem CW_skip (h : Q .normal f w) : CW X P N .skip Q f w := wpIn_skip ⟨f, rfl, h⟩
theorem CW_exit {id : Nat} (h : Q (.exit id) f w) : CW X P N (.exit id) Q f w := wpIn_exit ⟨f, rfl, h⟩
theorem CW_ret (h : Q .ret f w) : CW X P N .ret Q f w := wpIn_ret ⟨f, rfl, h⟩
theorem CW_seq {x y : Code} (h : ∀ K : Fr → World → Prop, (∀ f w, CW X P N y Q f w → K f w) → CW X P N x (thenF K Q) f w) : CW X P N (.seq x y) Q f w := by
  refine wpIn_seq (wpIn_mono (h (CW X P N y Q) fun _ _ h => h) ?_)
  intro e a w h
  cases e <;> first
    | exact h
    | (obtain ⟨f, rfl, h⟩ := h; exact h)
    | (obtain ⟨f, rfl, h⟩ := h; exact ⟨f, rfl, h⟩)
theorem CW_block {id : Nat} {c : Code} (h : CW X P N c (blockF id Q) f w) : CW X P N (.block id c) Q f w := by
  refine wpIn_block (wpIn_mono h ?_)
  intro e a w h
  cases e with
  | exit id' =>
    obtain ⟨f, rfl, h⟩ := h
    simp only [blockF] at h
    simp only [Exit.inBlock]
    split
    · rename_i hh; rw [if_pos hh] at h; exact ⟨f, rfl, h⟩
    · rename_i hh; rw [if_neg hh] at h; exact ⟨f, rfl, h⟩
  | _ => exact h
theorem CW_cond {x : Operand} {t e : Code} {b : Bool} (hc : ev N f x = .bool b) (ht : b = true → CW X P N t Q f w) (he : b = false → CW X P N e Q f w) : CW X P N (.cond x t e) Q f w := by
  have hc' : (FA X N f).eval x = .bool b := by rw [FA_eval]; exact hc
  exact wpIn_cond_split hc' ht he
theorem CW_condT {x : Operand} {t e : Code} {b : Bool} (hc : ev N f x = .bool b) (hb : b = true) (ht : CW X P N t Q f w) : CW X P N (.cond x t e) Q f w :=
  CW_cond hc (fun _ => ht) (fun h => by rw [hb] at h; cases h)
theorem CW_condF {x : Operand} {t e : Code} {b : Bool} (hc : ev N f x = .bool b) (hb : b = false) (he : CW X P N e Q f w) : CW X P N (.cond x t e) Q f w :=
  CW_cond hc (fun h => by rw [hb] at h; cases h) (fun _ => he)
theorem thenF_ret {K : Fr → World → Prop} (h : Q .ret f w) : thenF K Q .ret f w := h
theorem blockF_ret {id : Nat} (h : Q .ret f w) : blockF id Q .ret f w := h
def loopF (I : Fr → World → Prop) (Q : Exit → Fr → World → Prop) : Exit → Fr → World → Prop
  | .normal, f, w => I f w
  | e, f, w => Q e f w
/-- A loop: an invariant with a number of rounds that goes down. -/
theorem CW_loop {c : Code} (I : Nat → Fr → World → Prop) (n : Nat) (h0 : I n f w)
    (round : ∀ n f w, I n f w → CW X P N c (thenF (fun f' w' => ∃ m, m < n ∧ I m f' w') Q) f w) : CW X P N (.loop c) Q f w := by
  have key : ∀ n (f : Fr) (w : World), I n f w → (Code.loop c).wpIn X.F 9 P (QA X N Q) (FA X N f) w := by
    intro n f w hI
    refine wpIn_loop (fun a w => ∃ f n, a = FA X N f ∧ I n f w) (fun a w => Classical.epsilon (fun m => ∃ f, a = FA X N f ∧ I m f w ∧ ∀ m', (∃ f, a = FA X N f ∧ I m' f w) → m ≤ m')) ⟨f, n, rfl, hI⟩ ?_
    intro a w ⟨f, n, ha, hI⟩
    -- the least number at a
    have hex : ∃ m, ∃ f, a = FA X N f ∧ I m f w ∧ ∀ m', (∃ f, a = FA X N f ∧ I m' f w) → m ≤ m' := by
      induction n using Nat.strongRecOn generalizing f with
      | _ n ih =>
        by_cases hl : ∃ m', m' < n ∧ ∃ f, a = FA X N f ∧ I m' f w
        · obtain ⟨m', hlt, f', ha', hI'⟩ := hl
          exact ih m' hlt f' ha' hI'
        · refine ⟨n, f, ha, hI, fun m' hm' => ?_⟩
          rcases Nat.lt_or_ge m' n with h | h
          · exact absurd ⟨m', h, hm'⟩ hl
          · exact h
    have hsp := Classical.epsilon_spec hex
    generalize Classical.epsilon (fun m => ∃ f, a = FA X N f ∧ I m f w ∧ ∀ m', (∃ f, a = FA X N f ∧ I m' f w) → m ≤ m') = m at hsp
    obtain ⟨f, rfl, hI, _⟩ := hsp
    refine wpIn_mono (round m f w hI) ?_
    intro e a' w' h
    cases e with
    | normal =>
      obtain ⟨f', rfl, m', hlt, hI'⟩ := h
      refine ⟨⟨f', m', rfl, hI'⟩, ?_⟩
      have hex' : ∃ m, ∃ f, FA X N f' = FA X N f ∧ I m f w' ∧ ∀ m', (∃ f, FA X N f' = FA X N f ∧ I m' f w') → m ≤ m' := by
        clear hlt
        induction m' using Nat.strongRecOn generalizing f' with
        | _ n ih =>
          by_cases hl : ∃ m'', m'' < n ∧ ∃ f, FA X N f' = FA X N f ∧ I m'' f w'
          · obtain ⟨m'', hlt, f'', ha', hI''⟩ := hl
            obtain ⟨m3, f3, h3, h4⟩ := ih m'' hlt f'' hI''
            rw [← ha'] at h3 h4
            exact ⟨m3, f3, h3, h4⟩
          · refine ⟨n, f', rfl, hI', fun m' hm' => ?_⟩
            rcases Nat.lt_or_ge m' n with h | h
            · exact absurd ⟨m', h, hm'⟩ hl
            · exact h
      have hsp' := Classical.epsilon_spec hex'
      generalize Classical.epsilon (fun m => ∃ f, FA X N f' = FA X N f ∧ I m f w' ∧ ∀ m', (∃ f, FA X N f' = FA X N f ∧ I m' f w') → m ≤ m') = m3 at hsp'
      obtain ⟨_, _, _, hmin⟩ := hsp'
      exact Nat.lt_of_le_of_lt (hmin m' ⟨f', rfl, hI'⟩) hlt
    | panic c => exact h
    | outgrown => exact h
    | exit id => exact h
    | goto l => exact h
    | ret => exact h
  exact key n f w h0

/-! ### a function's body -/
def PostF (P : Program) (fn : Func) (N : Nat) (R : Value → World → Prop) : Exit → Fr → World → Prop
  | .normal, f, w | .ret, f, w => ∃ v, (results fn (FA X0 N f).tmps).run P w = .ok v w ∧ R v w
  | _, _, _ => False
/-- The call returns, and this is known of the value and of the world. -/
def Ret (P : Program) (k : FuncId) (args : Array Value) (w : World) (R : Value → World → Prop) : Prop :=
  Calls P k args w (fun e w' => ∃ v, e = .returned v ∧ R v w')
theorem Ret.mono {k : FuncId} {args : Array Value} {R R' : Value → World → Prop} (h : Ret P k args w R) (hr : ∀ v w', R v w' → R' v w') : Ret P k args w R' :=
  Calls.mono h fun _ _ ⟨v, he, h⟩ => ⟨v, he, hr _ _ h⟩
def arg (args : List Value) : Fr := fun i => args.getD i undef
theorem FA_arg {fn : Func} {args : List Value} (ha : args.length ≤ fn.ntmps) : (⟨args.toArray ++ Array.replicate (fn.ntmps - args.toArray.size) undef, []⟩ : Act) = FA X0 fn.ntmps (arg args) := by
  unfold FA arg
  simp only [Act.mk.injEq]
  refine ⟨?_, rfl⟩
  apply Array.ext
  · simp; omega
  · intro i h1 h2
    simp at h1
    simp only [Array.getElem_ofFn]
    by_cases hi : i < args.length
    · simp [Array.getElem_append, hi]
    · simp [Array.getElem_append, hi]
theorem Ret_enter {k : FuncId} {fn : Func} {c : Code} {args : List Value} {R : Value → World → Prop} (hf : P.funcs[k]? = some fn) (hb : fn.body = some c) (hN : fn.ntmps = N) (ha : args.length ≤ N)
    (h : CW X0 P N c (PostF P fn N R) (arg args) w) : Ret P k args.toArray w R := by
  subst hN
  refine calls_of_wp hf hb ?_
  rw [FA_arg ha]
  refine wp_mono ((wpIn_wide (n := 9)).1 h) ?_
  intro e a w h
  cases e with
  | normal => obtain ⟨f, rfl, v, hr, hR⟩ := h; exact ⟨rfl, v, hr, v, rfl, hR⟩
  | ret => obtain ⟨f, rfl, v, hr, hR⟩ := h; exact ⟨rfl, v, hr, v, rfl, hR⟩
  | panic c => exact h.elim
  | outgrown => exact h.elim
  | exit id => obtain ⟨f, rfl, h⟩ := h; exact h
  | goto l => obtain ⟨f, rfl, h⟩ := h; exact h
end
end Go.Proofs.YtkbldndbofbkcaaGreatDoor
/- The engine, part B: what is known of the memory; facts on types as instances; rules for operations. -/
namespace Go.Proofs.YtkbldndbofbkcaaGreatDoor
open Go Go.RowKit

/-! ### facts on types and functions -/
class CallE (P : Program) (k : FuncId) : Prop where h : ∀ args w, (callFunc k args).run P w = .ok (.enter k args) w
class SzE (P : Program) (T : TypeId) (n : outParam Nat) : Prop where h : ∀ w, (Go.sizeOf T).run P w = .ok n w
class ZrE (P : Program) (T : TypeId) (z : outParam Value) : Prop where h : ∀ w, (zeroValue T).run P w = .ok z w
class AgE (P : Program) (T : TypeId) (b : outParam Bool) : Prop where h : ∀ w, (isAgg T).run P w = .ok b w
class UnE (P : Program) (T : TypeId) (d : outParam TypeDesc) : Prop where h : P.underlying T = some d
class FdE (P : Program) (T : TypeId) (i : Nat) (off : outParam Nat) : Prop where h : ∀ (a : Addr) (w : World), (Instr.fieldAt T (.pointer (some a)) i).run P w = .ok (.pointer (some (a.add off))) w
class PlE (P : Program) (T : TypeId) (pl : outParam (List (Nat × Nat))) (z : outParam (List Value)) : Prop where
  h : ∀ (parts : Array (Nat × Value)) (w : World) (cells : Array Value), Instr.fill (fun i => pl[i]?) z.toArray parts.toList = some cells → (Instr.build T parts).run P w = .ok (.agg cells) w
theorem UnE.run {P : Program} {T : TypeId} {d : TypeDesc} [h : UnE P T d] (w : World) : (underlying T).run P w = .ok d w := run_underlying h.h w

/-! ### memory -/
/-- Of the blocks that were there nothing has turned but for those of M. -/
structure Fm (M : List Nat) (w w' : World) : Prop where
  os : w'.os = w.os
  tape : w'.tape = w.tape
  output : w'.output = w.output
  size : w.heap.size ≤ w'.heap.size
  block : ∀ k, k < w.heap.size → k ∉ M → w'.heap[k]? = w.heap[k]?
theorem Fm.refl (M : List Nat) (w : World) : Fm M w w := ⟨rfl, rfl, rfl, Nat.le_refl _, fun _ _ _ => rfl⟩
theorem Fm.trans {M M' : List Nat} {a b c : World} (h : Fm M a b) (k : Fm M' b c) (hM : ∀ x ∈ M', x < a.heap.size → x ∈ M) : Fm M a c :=
  ⟨k.os.trans h.os, k.tape.trans h.tape, k.output.trans h.output, Nat.le_trans h.size k.size, fun i hi hn =>
    (k.block i (Nat.lt_of_lt_of_le hi h.size) (fun hm => hn (hM i hm hi))).trans (h.block i hi hn)⟩
theorem Fm.then {a b c : World} (h : Fm [] a b) (k : Fm [] b c) : Fm [] a c := h.trans k (fun _ h => by cases h)
theorem Fm.mono {M M' : List Nat} {a b : World} (h : Fm M a b) (hM : ∀ x ∈ M, x ∈ M') : Fm M' a b := ⟨h.os, h.tape, h.output, h.size, fun i hi hn => h.block i hi fun hm => hn (hM i hm)⟩
theorem Fm.below {a b : World} (h : Fm [] a b) : Below a.heap.size a b := ⟨h.os, h.tape, h.output, h.size, fun i hi => h.block i hi (by simp)⟩
theorem Below.fm {a b : World} (h : Below a.heap.size a b) : Fm [] a b := ⟨h.os, h.tape, h.output, h.size, fun i hi _ => h.block i hi⟩
theorem heap_lt {w : World} {b : Nat} {o : Obj} (h : w.heap[b]? = some o) : b < w.heap.size := (Array.getElem?_eq_some_iff.1 h).1
theorem Fm.keep {M : List Nat} {a b : World} (h : Fm M a b) {k : Nat} {o : Obj} (hk : a.heap[k]? = some o) (hn : k ∉ M) : b.heap[k]? = some o := (h.block k (heap_lt hk) hn).trans hk
theorem Fm.cell {M : List Nat} {a b : World} (h : Fm M a b) {p : Addr} {v : Value} (hk : a.cell? p = some v) (hn : p.block ∉ M) : b.cell? p = some v := by
  rw [World.cell?_of_block (w := a) (h.block p.block (World.block_lt_of_cell? a p hk) hn)]; exact hk

/-- A piece of memory: its blocks, whether they may be written, and what is known of them. -/
structure Ent where
  fp : List Nat
  own : Bool
  holds : World → Prop
  loc : ∀ {w w' : World}, (∀ b ∈ fp, w'.heap[b]? = w.heap[b]?) → holds w → holds w'
  lt : ∀ {w : World}, holds w → ∀ b ∈ fp, b < w.heap.size
/-- One block. -/
def eB (b : Nat) (q : Bool) (o : Obj) : Ent :=
  ⟨[b], q, fun w => w.heap[b]? = some o, fun h k => (h b (by simp)).trans k, fun h x hx => by simp at hx; subst hx; exact heap_lt h⟩
/-- A slice that grows: nil, or a row of its own. -/
def eR (v : Value) (E : TypeId) (size n : Nat) (xs : List Value) : Ent :=
  ⟨v.ownBlock.toList, true, fun w => w.ownsRow 0 E size v n xs,
    fun h k => by
      obtain ⟨h1, h2⟩ := k
      refine ⟨h1, ?_⟩
      rcases h2 with h2 | ⟨g, cap, cur, hv, hb, hg, r⟩
      · exact .inl h2
      · exact .inr ⟨g, cap, cur, hv, hb, by rw [h g (by rw [hv]; simp [Value.ownBlock])]; exact hg, r⟩,
    fun h x hx => (h.lt x (by simpa using hx)).2⟩
/-- The state of a walk: against the world w0 at its beginning only blocks of M have turned; the pieces in H are apart from one another; those marked as own may be written. -/
structure St (w0 : World) (M : List Nat) (w : World) (H : List Ent) : Prop where
  fm : Fm M w0 w
  has : ∀ e ∈ H, e.holds w
  own : ∀ e ∈ H, e.own = true → ∀ b ∈ e.fp, w0.heap.size ≤ b ∨ b ∈ M
  sep : H.Pairwise (fun x y => ∀ b ∈ x.fp, b ∉ y.fp)
theorem St.init (w : World) (M : List Nat) : St w M w [] := ⟨.refl _ _, by simp, by simp, .nil⟩
theorem St.get {w0 w : World} {M : List Nat} {H : List Ent} (h : St w0 M w H) {b : Nat} {q : Bool} {o : Obj} (hm : eB b q o ∈ H) : w.heap[b]? = some o := h.has _ hm
theorem St.row {w0 w : World} {M : List Nat} {H : List Ent} (h : St w0 M w H) {v : Value} {E : TypeId} {size n : Nat} {xs : List Value} (hm : eR v E size n xs ∈ H) : w.ownsRow 0 E size v n xs := h.has _ hm
/-- One piece more. -/
theorem St.put {w0 w : World} {M : List Nat} {H : List Ent} (h : St w0 M w H) {e : Ent} (hb : e.holds w) (hn : ∀ x ∈ H, ∀ b ∈ e.fp, b ∉ x.fp) (ho : e.own = true → ∀ b ∈ e.fp, w0.heap.size ≤ b ∨ b ∈ M) : St w0 M w (e :: H) :=
  ⟨h.fm, by intro x hx; rcases List.mem_cons.1 hx with rfl | hx; · exact hb
            · exact h.has x hx,
   by intro x hx; rcases List.mem_cons.1 hx with rfl | hx; · exact ho
      · exact h.own x hx,
   List.pairwise_cons.2 ⟨hn, h.sep⟩⟩
theorem St.fresh {w0 w : World} {M : List Nat} {H : List Ent} (h : St w0 M w H) {fp : List Nat} (hg : ∀ b ∈ fp, w.heap.size ≤ b) : ∀ x ∈ H, ∀ b ∈ fp, b ∉ x.fp := fun x hx b hb hq => by
  have := x.lt (h.has x hx) b hq; have := hg b hb; omega
/-- A piece of blocks that were not there in w1, w1 not later than the pieces. -/
theorem St.putNew {w0 w : World} {M : List Nat} {H : List Ent} (h : St w0 M w H) {e : Ent} (hb : e.holds w) (w1 : World) (h1 : w0.heap.size ≤ w1.heap.size) (hH : ∀ x ∈ H, x.holds w1) (hn : ∀ b ∈ e.fp, w1.heap.size ≤ b) : St w0 M w (e :: H) :=
  h.put hb (fun x hx b hbe hbx => by have := x.lt (hH x hx) b hbx; have := hn b hbe; omega) (fun _ b hb => .inl (Nat.le_trans h1 (hn b hb)))
theorem St.drop1 {w0 w : World} {M : List Nat} {H : List Ent} {e : Ent} (h : St w0 M w (e :: H)) : St w0 M w H :=
  ⟨h.fm, fun x hx => h.has x (.tail _ hx), fun x hx => h.own x (.tail _ hx), (List.pairwise_cons.1 h.sep).2⟩
/-- e in H, and H with e' in its place. -/
inductive Rep (e e' : Ent) : List Ent → List Ent → Prop
  | here {H : List Ent} : Rep e e' (e :: H) (e' :: H)
  | there {x : Ent} {H H' : List Ent} (h : Rep e e' H H') : Rep e e' (x :: H) (x :: H')
theorem Rep.mem {e e' : Ent} {H H' : List Ent} (h : Rep e e' H H') : e ∈ H := by
  induction h with
  | here => exact .head _
  | there _ ih => exact .tail _ ih
theorem Rep.cases {e e' : Ent} {H H' : List Ent} (h : Rep e e' H H') (hs : H.Pairwise (fun x y => ∀ b ∈ x.fp, b ∉ y.fp)) : ∀ x ∈ H', x = e' ∨ (x ∈ H ∧ ∀ b ∈ x.fp, b ∉ e.fp) := by
  induction h with
  | @here H =>
    intro x hx
    rw [List.pairwise_cons] at hs
    rcases List.mem_cons.1 hx with rfl | hx
    · exact .inl rfl
    · exact .inr ⟨.tail _ hx, fun b hb hq => hs.1 x hx b hq hb⟩
  | @there y H H' h ih =>
    intro x hx
    rw [List.pairwise_cons] at hs
    rcases List.mem_cons.1 hx with rfl | hx
    · exact .inr ⟨.head _, fun b hb => hs.1 e h.mem b hb⟩
    · rcases ih hs.2 x hx with h1 | h1
      · exact .inl h1
      · exact .inr ⟨.tail _ h1.1, h1.2⟩
theorem Rep.sep {e e' : Ent} {H H' : List Ent} (h : Rep e e' H H') (w : World) (hH : ∀ x ∈ H, x.holds w) (hf : ∀ b ∈ e'.fp, b ∈ e.fp ∨ w.heap.size ≤ b) (hs : H.Pairwise (fun x y => ∀ b ∈ x.fp, b ∉ y.fp)) :
    H'.Pairwise (fun x y => ∀ b ∈ x.fp, b ∉ y.fp) := by
  induction h with
  | @here H =>
    rw [List.pairwise_cons] at hs ⊢
    refine ⟨fun y hy b hb hq => ?_, hs.2⟩
    rcases hf b hb with h1 | h1
    · exact hs.1 y hy b h1 hq
    · have := y.lt (hH y (.tail _ hy)) b hq; omega
  | @there y H H' h ih =>
    rw [List.pairwise_cons] at hs ⊢
    refine ⟨fun x hx b hb hq => ?_, ih (fun x hx => hH x (.tail _ hx)) hs.2⟩
    rcases h.cases hs.2 x hx with rfl | ⟨h1, _⟩
    · rcases hf b hq with h2 | h2
      · exact hs.1 e h.mem b hb h2
      · have := y.lt (hH y (.head _)) b hb; omega
    · exact hs.1 x h1 b hb hq
/-- ONE PIECE TURNS: only blocks of it have turned, and new ones may have come. -/
theorem St.rep {w0 w w' : World} {M : List Nat} {H H' : List Ent} {e e' : Ent} (h : St w0 M w H) (hr : Rep e e' H H') (ho : e.own = true) (hf : Fm e.fp w w') (he : e'.holds w') (hfp : ∀ b ∈ e'.fp, b ∈ e.fp ∨ w.heap.size ≤ b) : St w0 M w' H' := by
  have hown := h.own _ hr.mem ho
  refine ⟨h.fm.trans hf (fun x hx hlt => ?_), fun x hx => ?_, fun x hx hq b hb => ?_, hr.sep w h.has hfp h.sep⟩
  · rcases hown x hx with h1 | h1
    · omega
    · exact h1
  · rcases hr.cases h.sep x hx with rfl | ⟨h1, h2⟩
    · exact he
    · exact x.loc (fun b hb => hf.block b (x.lt (h.has x h1) b hb) (h2 b hb)) (h.has x h1)
  · rcases hr.cases h.sep x hx with rfl | ⟨h1, h2⟩
    · rcases hfp b hb with h3 | h3
      · exact hown b h3
      · exact .inl (Nat.le_trans h.fm.size h3)
    · exact h.own x h1 hq b hb
/-- Behind a call that turns nothing that was there. -/
theorem St.call {w0 w w' : World} {M : List Nat} {H : List Ent} (h : St w0 M w H) (hf : Fm [] w w') : St w0 M w' H :=
  ⟨h.fm.trans hf (fun _ h => by cases h), fun x hx => x.loc (fun b hb => hf.block b (x.lt (h.has x hx) b hb) (by simp)) (h.has x hx), h.own, h.sep⟩
/-- Behind it, with a new piece. -/
theorem St.callNew {w0 w w' : World} {M : List Nat} {H : List Ent} (h : St w0 M w H) (hf : Fm [] w w') {e : Ent} (he : e.holds w') (hn : ∀ b ∈ e.fp, w.heap.size ≤ b) : St w0 M w' (e :: H) :=
  (h.call hf).putNew he w h.fm.size h.has hn
theorem fm_alloc (w : World) (o : Obj) : Fm [] w (w.alloc o) := ⟨rfl, rfl, rfl, by simp, fun k hk _ => Below.heap_alloc w o k hk⟩
theorem St.new {w0 w : World} {M : List Nat} {H : List Ent} (h : St w0 M w H) (o : Obj) : St w0 M (w.alloc o) (eB w.heap.size true o :: H) :=
  h.callNew (fm_alloc w o) (by show (w.heap.push o)[w.heap.size]? = _; simp) (by intro b hb; simp [eB] at hb; omega)
theorem St.dr {w0 w : World} {M : List Nat} {H : List Ent} (h : St w0 M w H) (n : Nat) : St w0 M { w with drawn := n } H := h.call ⟨rfl, rfl, rfl, Nat.le_refl _, fun _ _ _ => rfl⟩
theorem Fm.dr {M : List Nat} {a b : World} (h : Fm M a b) (n : Nat) : Fm M a { b with drawn := n } := ⟨h.os, h.tape, h.output, h.size, h.block⟩
/-- A row of cells, nothing of it frozen. -/
abbrev Blk (T : TypeId) (l : List Value) : Obj := .cells l.toArray T (0, 0)
theorem cell_of_blk {w : World} {b off : Nat} {T : TypeId} {l : List Value} {fr : Nat × Nat} (h : w.heap[b]? = some (.cells l.toArray T fr)) : w.cell? ⟨b, off, none⟩ = l[off]? := by simp [World.cell?, h]
end Go.Proofs.YtkbldndbofbkcaaGreatDoor
/- The engine, part C: rules for operations. -/
namespace Go.Proofs.YtkbldndbofbkcaaGreatDoor
open Go Go.RowKit
def WL (X : Cx) (P : Program) (N : Nat) (ops : Array Oper) (Q : Exit → Fr → World → Prop) (l : List Oper) (f : Fr) (w : World) : Prop := wpList P ops (QA X N Q) l (FA X N f) w
def updO (f : Fr) (dst : Option Nat) (v : Value) : Fr := match dst with | some d => upd f d v | none => f
section
variable {X : Cx} {P : Program} {N : Nat} {Q : Exit → Fr → World → Prop} {f : Fr} {w : World} {ops : Array Oper} {rest : List Oper}
theorem CW_region {ds : List Deferred} {id : Nat} {l : List Oper} (h : WL ⟨none, ds⟩ P N l.toArray Q l f w) : CW ⟨none, ds⟩ P N (.region id l.toArray false) Q f w := (wpIn_wide (n := 9)).2 (wp_region_lit h)
theorem CW_regionR {id : Nat} {l : List Oper} (hd : l.all ndf = true) (h : WL X P N l.toArray Q l f w) : CW X P N (.region id l.toArray false) Q f w := wpIn_region_lit (list_in X 9 (fun _ _ h => h) l _ _ hd h)
theorem WL_nil (h : Q .normal f w) : WL X P N ops Q [] f w := ⟨f, rfl, h⟩
/-- What one operation leaves, its guard aside. -/
def Ex (P : Program) (N : Nat) (f : Fr) (w : World) (o : Oper) (v : Value) (w' : World) : Prop := (execOp (ev N f) o).run P w = .ok (.value v) w'
def ExU (P : Program) (N : Nat) (f : Fr) (w : World) (o : Oper) (w' : World) : Prop := (execOp (ev N f) o).run P w = .ok .skip w'
variable {d : Nat} {T : TypeId} {p : String} {aft : Array Edge} {op : Op}
theorem WL_v {v : Value} {w' : World} (h : Ex P N f w ⟨some d, op, T, p, aft, none⟩ v w') (k : WL X P N ops Q rest (upd f d v) w') : WL X P N ops Q (⟨some d, op, T, p, aft, none⟩ :: rest) f w := by
  unfold WL
  refine wpList_plain rfl fun K hK => ?_
  unfold Oper.wp
  rw [FA_eval, h, Oper.upon_value, FA_put]
  exact hK _ _ k
theorem WL_u {w' : World} (h : ExU P N f w ⟨none, op, T, p, aft, none⟩ w') (k : WL X P N ops Q rest f w') : WL X P N ops Q (⟨none, op, T, p, aft, none⟩ :: rest) f w := by
  unfold WL
  refine wpList_plain rfl fun K hK => ?_
  unfold Oper.wp
  rw [FA_eval, h, Oper.upon_skip, FA_put_none]
  exact hK _ _ k
theorem wpList_unguard {Q' : Exit → Act → World → Prop} {o : Oper} {a : Act} (hg : Region.wanted o (yielded ops a.tmps) = true) (h : wpList P ops Q' ({ o with guard := none } :: rest) a w) : wpList P ops Q' (o :: rest) a w := by
  unfold wpList at h ⊢
  rw [if_pos hg]
  rw [if_pos (by simp [Region.wanted])] at h
  exact h
/-- A guarded operation: where its guard says so it is carried out, else its temporary is void. -/
theorem WL_g0 {dst : Option Nat} {j : Nat} {want b : Bool} {g : Nat} (hg : (ops[j]?).bind (·.dst) = some g) (hN : g < N) (hb : ev N f (.tmp g) = .bool b)
    (hy : b = want → WL X P N ops Q (⟨dst, op, T, p, aft, none⟩ :: rest) (upd f g (.bool want)) w)
    (hn : b = !want → WL X P N ops Q rest (updO (upd f g (.bool (!want))) dst undef) w) : WL X P N ops Q (⟨dst, op, T, p, aft, some (j, want)⟩ :: rest) f w := by
  have hfg : f g = .bool b := by rw [ev_tmp, if_pos hN] at hb; exact hb
  have hyl : yielded ops (FA X N f).tmps j = some b := by
    unfold yielded; rw [hg]; simp [FA_get?, hN, hfg]
  unfold WL at *
  by_cases h : b = want
  · subst h
    have e : upd f g (.bool b) = f := upd_self hfg
    rw [e] at hy
    exact wpList_unguard (by simp [Region.wanted, hyl]) (hy rfl)
  · have h' : b = !want := by cases b <;> cases want <;> simp_all
    have hw : Region.wanted (⟨dst, op, T, p, aft, some (j, want)⟩ : Oper) (yielded ops (FA X N f).tmps) = false := by
      simp [Region.wanted, hyl]; exact h
    refine wpList_skip hw ?_
    have e : upd f g (.bool (!want)) = f := by rw [← h']; exact upd_self hfg
    have := hn h'
    rw [e] at this
    cases dst with
    | none => exact this
    | some d => rw [FA_put]; exact this

/-- The same over the list of the region's operations. -/
theorem WL_g {lo : List Oper} {dst : Option Nat} {j : Nat} {want b : Bool} {g : Nat} (hg : (lo[j]?).bind (·.dst) = some g) (hN : g < N) (hb : ev N f (.tmp g) = .bool b)
    (hy : b = want → WL X P N lo.toArray Q (⟨dst, op, T, p, aft, none⟩ :: rest) (upd f g (.bool want)) w)
    (hn : b = !want → WL X P N lo.toArray Q rest (updO (upd f g (.bool (!want))) dst undef) w) : WL X P N lo.toArray Q (⟨dst, op, T, p, aft, some (j, want)⟩ :: rest) f w :=
  WL_g0 (by simpa using hg) hN hb hy hn
/-! ### values alone -/
theorem equalIn_ptr_nil (n : Nat) {A E : TypeId} (hA : P.underlying A = some (.pointer E)) (q : Option Addr) : (Op.equalIn (n + 1) A (.pointer q) (.pointer none)).run P w = .ok q.isNone w := by
  cases q <;> simp [Op.equalIn, run_underlying hA]
theorem equal_ptr_nil {A E : TypeId} (hA : P.underlying A = some (.pointer E)) (q : Option Addr) : (Op.equal A (.pointer q) (.pointer none)).run P w = .ok q.isNone w := equalIn_ptr_nil 9999 hA q
theorem equalIn_slice_nil (n : Nat) {A E : TypeId} (hA : P.underlying A = some (.slice E)) (q : Option Addr) (l c l' c' : Nat) : (Op.equalIn (n + 1) A (.slice q l c) (.slice none l' c')).run P w = .ok q.isNone w := by
  cases q <;> simp [Op.equalIn, run_underlying hA]
theorem equal_slice_nil {A E : TypeId} (hA : P.underlying A = some (.slice E)) (q : Option Addr) (l c l' c' : Nat) : (Op.equal A (.slice q l c) (.slice none l' c')).run P w = .ok q.isNone w := equalIn_slice_nil 9999 hA q l c l' c'
variable {x y c : Operand}
theorem X_move {v : Value} (hv : ev N f x = v) : Ex P N f w ⟨some d, .move x, T, p, aft, none⟩ v w := by simp [Ex, execOp, hv]
theorem X_assign {v : Value} (hv : ev N f x = v) : Ex P N f w ⟨some d, .assign x, T, p, aft, none⟩ v w := by simp [Ex, execOp, hv]
theorem X_pickT {v : Value} (hc : ev N f c = .bool true) (hv : ev N f x = v) : Ex P N f w ⟨some d, .pick c x y, T, p, aft, none⟩ v w := by simp [Ex, execOp, hv, hc, asBool]
theorem X_pickF {v : Value} (hc : ev N f c = .bool false) (hv : ev N f y = v) : Ex P N f w ⟨some d, .pick c x y, T, p, aft, none⟩ v w := by simp [Ex, execOp, hv, hc, asBool]
theorem X_pick {b : Bool} {u v : Value} (hc : ev N f c = .bool b) (hu : ev N f x = u) (hv : ev N f y = v) : Ex P N f w ⟨some d, .pick c x y, T, p, aft, none⟩ (if b then u else v) w := by
  cases b <;> simp [Ex, execOp, hu, hv, hc, asBool]
variable {A : TypeId} {B : TypeId} {k : IntKind} {m n : Int}
theorem X_eql (hx : ev N f x = .int k m) (hy : ev N f y = .int k n) : Ex P N f w ⟨some d, .binOp .eql A x y B, T, p, aft, none⟩ (.bool (decide (m = n))) w := by
  simp [Ex, execOp, hx, hy, eqGuard, binOp, Op.intCmp]; rfl
theorem X_neq (hx : ev N f x = .int k m) (hy : ev N f y = .int k n) : Ex P N f w ⟨some d, .binOp .neq A x y B, T, p, aft, none⟩ (.bool (decide (m ≠ n))) w := by
  simp [Ex, execOp, hx, hy, eqGuard, binOp, Op.intCmp, bne]; rfl
theorem X_lss (hx : ev N f x = .int k m) (hy : ev N f y = .int k n) : Ex P N f w ⟨some d, .binOp .lss A x y B, T, p, aft, none⟩ (.bool (decide (m < n))) w := by
  simp [Ex, execOp, hx, hy, eqGuard, binOp, Op.intCmp]
theorem X_leq (hx : ev N f x = .int k m) (hy : ev N f y = .int k n) : Ex P N f w ⟨some d, .binOp .leq A x y B, T, p, aft, none⟩ (.bool (decide (m ≤ n))) w := by
  simp [Ex, execOp, hx, hy, eqGuard, binOp, Op.intCmp]
theorem X_gtr (hx : ev N f x = .int k m) (hy : ev N f y = .int k n) : Ex P N f w ⟨some d, .binOp .gtr A x y B, T, p, aft, none⟩ (.bool (decide (n < m))) w := by
  simp [Ex, execOp, hx, hy, eqGuard, binOp, Op.intCmp]
theorem X_geq (hx : ev N f x = .int k m) (hy : ev N f y = .int k n) : Ex P N f w ⟨some d, .binOp .geq A x y B, T, p, aft, none⟩ (.bool (decide (n ≤ m))) w := by
  simp [Ex, execOp, hx, hy, eqGuard, binOp, Op.intCmp]
theorem wrap_in {a : Int} (h0 : -9223372036854775808 ≤ a) (h1 : a ≤ 9223372036854775807) : IntKind.i64.wrap a = a := IntWalk.i64_in _ (by omega)
theorem X_add (hx : ev N f x = .int k m) (hy : ev N f y = .int k n) : Ex P N f w ⟨some d, .binOp .add A x y B, T, p, aft, none⟩ (.int k (k.wrap (m + n))) w := by
  simp [Ex, execOp, hx, hy, eqGuard, binOp, Op.intArith]
theorem X_addp (hx : ev N f x = .int .i64 m) (hy : ev N f y = .int .i64 n) (h0 : -9223372036854775808 ≤ m + n) (h1 : m + n ≤ 9223372036854775807) : Ex P N f w ⟨some d, .binOp .add A x y B, T, p, aft, none⟩ (.int .i64 (m + n)) w := by
  have := X_add (P := P) (f := f) (w := w) (d := d) (T := T) (p := p) (aft := aft) (A := A) (B := B) hx hy
  rwa [wrap_in h0 h1] at this
theorem X_sub (hx : ev N f x = .int k m) (hy : ev N f y = .int k n) : Ex P N f w ⟨some d, .binOp .sub A x y B, T, p, aft, none⟩ (.int k (k.wrap (m - n))) w := by
  simp [Ex, execOp, hx, hy, eqGuard, binOp, Op.intArith]
theorem X_subp (hx : ev N f x = .int .i64 m) (hy : ev N f y = .int .i64 n) (h0 : -9223372036854775808 ≤ m - n) (h1 : m - n ≤ 9223372036854775807) : Ex P N f w ⟨some d, .binOp .sub A x y B, T, p, aft, none⟩ (.int .i64 (m - n)) w := by
  have := X_sub (P := P) (f := f) (w := w) (d := d) (T := T) (p := p) (aft := aft) (A := A) (B := B) hx hy
  rwa [wrap_in h0 h1] at this
theorem X_mul (hx : ev N f x = .int k m) (hy : ev N f y = .int k n) : Ex P N f w ⟨some d, .binOp .mul A x y B, T, p, aft, none⟩ (.int k (k.wrap (m * n))) w := by
  simp [Ex, execOp, hx, hy, eqGuard, binOp, Op.intArith]
theorem X_mulp (hx : ev N f x = .int .i64 m) (hy : ev N f y = .int .i64 n) (h0 : -9223372036854775808 ≤ m * n) (h1 : m * n ≤ 9223372036854775807) : Ex P N f w ⟨some d, .binOp .mul A x y B, T, p, aft, none⟩ (.int .i64 (m * n)) w := by
  have := X_mul (P := P) (f := f) (w := w) (d := d) (T := T) (p := p) (aft := aft) (A := A) (B := B) hx hy
  rwa [wrap_in h0 h1] at this
theorem X_quo (hx : ev N f x = .int k m) (hy : ev N f y = .int k n) (hn : n ≠ 0) : Ex P N f w ⟨some d, .binOp .quo A x y B, T, p, aft, none⟩ (.int k (k.wrap (m.tdiv n))) w := by
  simp [Ex, execOp, hx, hy, eqGuard, binOp, Op.intDiv, hn]
theorem X_rem (hx : ev N f x = .int k m) (hy : ev N f y = .int k n) (hn : n ≠ 0) : Ex P N f w ⟨some d, .binOp .rem A x y B, T, p, aft, none⟩ (.int k (m.tmod n)) w := by
  simp [Ex, execOp, hx, hy, eqGuard, binOp, Op.intDiv, hn]
def bitsV (op : BinOp) (k : IntKind) (m n : Int) : Int :=
  match op with
  | .and => k.wrap (BitVec.ofInt k.bits m &&& BitVec.ofInt k.bits n).toNat
  | .or => k.wrap (BitVec.ofInt k.bits m ||| BitVec.ofInt k.bits n).toNat
  | .xor => k.wrap (BitVec.ofInt k.bits m ^^^ BitVec.ofInt k.bits n).toNat
  | _ => 0
theorem X_and (hx : ev N f x = .int k m) (hy : ev N f y = .int k n) : Ex P N f w ⟨some d, .binOp .and A x y B, T, p, aft, none⟩ (.int k (bitsV .and k m n)) w := by
  simp [Ex, execOp, hx, hy, eqGuard, binOp, Op.intBits, bitsV]
theorem X_or (hx : ev N f x = .int k m) (hy : ev N f y = .int k n) : Ex P N f w ⟨some d, .binOp .or A x y B, T, p, aft, none⟩ (.int k (bitsV .or k m n)) w := by
  simp [Ex, execOp, hx, hy, eqGuard, binOp, Op.intBits, bitsV]
theorem X_xor (hx : ev N f x = .int k m) (hy : ev N f y = .int k n) : Ex P N f w ⟨some d, .binOp .xor A x y B, T, p, aft, none⟩ (.int k (bitsV .xor k m n)) w := by
  simp [Ex, execOp, hx, hy, eqGuard, binOp, Op.intBits, bitsV]
variable {k' : IntKind}
theorem X_shl (hx : ev N f x = .int k m) (hy : ev N f y = .int k' n) (hn : 0 ≤ n) : Ex P N f w ⟨some d, .binOp .shl A x y B, T, p, aft, none⟩ (.int k (k.wrap (m * 2 ^ (min n.toNat k.bits)))) w := by
  have : ¬ n < 0 := by omega
  simp [Ex, execOp, hx, hy, eqGuard, binOp, Op.shift, this]
theorem X_shr (hx : ev N f x = .int k m) (hy : ev N f y = .int k' n) (hn : 0 ≤ n) : Ex P N f w ⟨some d, .binOp .shr A x y B, T, p, aft, none⟩ (.int k (m.fdiv (2 ^ (min n.toNat k.bits)))) w := by
  have : ¬ n < 0 := by omega
  simp [Ex, execOp, hx, hy, eqGuard, binOp, Op.shift, this]
theorem X_not {b : Bool} (hx : ev N f x = .bool b) : Ex P N f w ⟨some d, .unOp .not A x, T, p, aft, none⟩ (.bool (!b)) w := by
  simp [Ex, execOp, hx, Op.unary]
theorem X_neg (hx : ev N f x = .int k m) : Ex P N f w ⟨some d, .unOp .neg A x, T, p, aft, none⟩ (.int k (k.wrap (0 - m))) w := by
  simp [Ex, execOp, hx, Op.unary, Op.intArith]
theorem X_cvint [hA : UnE P A (.int k')] [hB : UnE P B (.int k)] (hx : ev N f x = .int k' m) : Ex P N f w ⟨some d, .convert A B x, T, p, aft, none⟩ (.int k (k.wrap m)) w := by
  simp [Ex, execOp, hx, convert, run_underlying hA.h, run_underlying hB.h, Conv.intToInt]
theorem X_cvintp [hA : UnE P A (.int k')] [hB : UnE P B (.int .i64)] (hx : ev N f x = .int k' m) (h0 : -9223372036854775808 ≤ m) (h1 : m ≤ 9223372036854775807) : Ex P N f w ⟨some d, .convert A B x, T, p, aft, none⟩ (.int .i64 m) w := by
  have := X_cvint (P := P) (f := f) (w := w) (d := d) (T := T) (p := p) (aft := aft) (A := A) (B := B) (k := .i64) hx
  rwa [wrap_in h0 h1] at this
theorem X_cvstr {s : ByteArray} [hA : UnE P A .string] [hB : UnE P B .string] (hx : ev N f x = .string s) : Ex P N f w ⟨some d, .convert A B x, T, p, aft, none⟩ (.string s) w := by
  simp [Ex, execOp, hx, convert, run_underlying hA.h, run_underlying hB.h]
theorem X_nilCheckP {a : Addr} (hx : ev N f x = .pointer (some a)) : Ex P N f w ⟨some d, .nilCheck x, T, p, aft, none⟩ (.pointer (some a)) w := by
  simp [Ex, execOp, hx]
theorem X_nilCheckF {g : FuncId} {u v : Array Value} (hx : ev N f x = .func (.func g) u v) : Ex P N f w ⟨some d, .nilCheck x, T, p, aft, none⟩ (.func (.func g) u v) w := by
  simp [Ex, execOp, hx]
theorem X_eqNilP {q : Option Addr} {E : TypeId} [hA : UnE P A (.pointer E)] (hx : ev N f x = .pointer q) (hy : ev N f y = .pointer none) : Ex P N f w ⟨some d, .binOp .eql A x y B, T, p, aft, none⟩ (.bool q.isNone) w := by
  simp [Ex, execOp, hx, hy, eqGuard, binOp, equal_ptr_nil hA.h]
theorem X_neNilP {q : Option Addr} {E : TypeId} [hA : UnE P A (.pointer E)] (hx : ev N f x = .pointer q) (hy : ev N f y = .pointer none) : Ex P N f w ⟨some d, .binOp .neq A x y B, T, p, aft, none⟩ (.bool q.isSome) w := by
  simp [Ex, execOp, hx, hy, eqGuard, binOp, equal_ptr_nil hA.h]
theorem X_eqNilS {q : Option Addr} {l e l' e' : Nat} {E : TypeId} [hA : UnE P A (.slice E)] (hx : ev N f x = .slice q l e) (hy : ev N f y = .slice none l' e') : Ex P N f w ⟨some d, .binOp .eql A x y B, T, p, aft, none⟩ (.bool q.isNone) w := by
  simp [Ex, execOp, hx, hy, eqGuard, binOp, equal_slice_nil hA.h]
theorem X_neNilS {q : Option Addr} {l e l' e' : Nat} {E : TypeId} [hA : UnE P A (.slice E)] (hx : ev N f x = .slice q l e) (hy : ev N f y = .slice none l' e') : Ex P N f w ⟨some d, .binOp .neq A x y B, T, p, aft, none⟩ (.bool q.isSome) w := by
  simp [Ex, execOp, hx, hy, eqGuard, binOp, equal_slice_nil hA.h]
theorem X_extract {vs : List Value} {i : Nat} {v : Value} (hx : ev N f x = .tuple vs.toArray) (hv : vs[i]? = some v) : Ex P N f w ⟨some d, .extract x i, T, p, aft, none⟩ v w := by
  simp [Ex, execOp, hx, Instr.extract, hv]
theorem X_mkFunc {fn : Fn} {u v : Array Operand} : Ex P N f w ⟨some d, .makeFunc fn u v, T, p, aft, none⟩ (.func fn (u.map (ev N f)) (v.map (ev N f))) w := by
  simp [Ex, execOp, Instr.makeFunc]
theorem X_len {a : Option Addr} {l c : Nat} {E : TypeId} [hA : UnE P A (.slice E)] (hx : ev N f x = .slice a l c) : Ex P N f w ⟨some d, .call ⟨.builtin .len, #[x], #[A]⟩, T, p, aft, none⟩ (.int .i64 l) w := by
  simp [Ex, execOp, resolve, invoke, builtin, hx, Builtin.len_, run_underlying hA.h, goInt]
theorem X_lenS {s : ByteArray} [hA : UnE P A .string] (hx : ev N f x = .string s) : Ex P N f w ⟨some d, .call ⟨.builtin .len, #[x], #[A]⟩, T, p, aft, none⟩ (.int .i64 s.size) w := by
  simp [Ex, execOp, resolve, invoke, builtin, hx, Builtin.len_, run_underlying hA.h, goInt]
theorem X_cap {a : Option Addr} {l c : Nat} {E : TypeId} [hA : UnE P A (.slice E)] (hx : ev N f x = .slice a l c) : Ex P N f w ⟨some d, .call ⟨.builtin .cap, #[x], #[A]⟩, T, p, aft, none⟩ (.int .i64 c) w := by
  simp [Ex, execOp, resolve, invoke, builtin, hx, Builtin.cap_, run_underlying hA.h, goInt]
theorem X_min {Ts : Array TypeId} (hx : ev N f x = .int k m) (hy : ev N f y = .int k' n) : Ex P N f w ⟨some d, .call ⟨.builtin .min, #[x, y], Ts⟩, T, p, aft, none⟩ (.int k (if n < m then n else m)) w := by
  simp [Ex, execOp, resolve, invoke, builtin, hx, hy, Builtin.min_, Builtin.min2]
theorem X_max {Ts : Array TypeId} (hx : ev N f x = .int k m) (hy : ev N f y = .int k' n) : Ex P N f w ⟨some d, .call ⟨.builtin .max, #[x, y], Ts⟩, T, p, aft, none⟩ (.int k (if n > m then n else m)) w := by
  simp [Ex, execOp, resolve, invoke, builtin, hx, hy, Builtin.max_, Builtin.max2]
end
end Go.Proofs.YtkbldndbofbkcaaGreatDoor
/- The engine, part D: rules for memory, slices, calls, results. -/
namespace Go.Proofs.YtkbldndbofbkcaaGreatDoor
open Go Go.RowKit
/-- A value's cells as a list. -/
class ZlE (P : Program) (T : TypeId) (zl : outParam (List Value)) : Prop where h : ∃ z, (∀ w, (zeroValue T).run P w = .ok z w) ∧ z.cells = zl.toArray
class ElE (P : Program) (E : TypeId) (zl : outParam (List Value)) (size bytes : outParam Nat) : Prop where
  h : ∃ i z, P.info? E = some i ∧ i.zero = some z ∧ z.cells = zl.toArray ∧ i.size = size ∧ i.bytes = bytes
/-- A part of a list. -/
def subl : List Value → Nat → Nat → List Value
  | _, _, 0 => []
  | [], _, _ + 1 => []
  | a :: l, 0, n + 1 => a :: subl l 0 n
  | _ :: l, o + 1, n + 1 => subl l o (n + 1)
theorem subl_eq : ∀ (l : List Value) (o n : Nat), subl l o n = (l.drop o).take n
  | _, _, 0 => by simp [subl]
  | [], o, n + 1 => by simp [subl]
  | a :: l, 0, n + 1 => by simp [subl, subl_eq l 0 n]
  | _ :: l, o + 1, n + 1 => by simp [subl, subl_eq l o (n + 1)]
/-- A list with others written over it from a place on. -/
def spl : List Value → Nat → List Value → List Value
  | l, _, [] => l
  | l, o, v :: vs => spl (l.set o v) (o + 1) vs
theorem spl_length (vs : List Value) : ∀ (l : List Value) (o : Nat), (spl l o vs).length = l.length := by
  induction vs with
  | nil => intro l o; rfl
  | cons v vs ih => intro l o; rw [spl, ih]; simp
section
variable {X : Cx} {P : Program} {N : Nat} {Q : Exit → Fr → World → Prop} {f : Fr} {w w0 : World} {M : List Nat} {H H' : List Ent} {ops : Array Oper} {rest : List Oper}
variable {d : Nat} {T A B E : TypeId} {p : String} {aft : Array Edge} {x y c : Operand} {b off n m : Nat} {q : Bool} {l vl m' : List Value} {fr : Nat × Nat} {T' : TypeId} {v : Value}

/-! ### loads -/
theorem X_loadc {a : Addr} [hA : AgE P A false] (hx : ev N f x = .pointer (some a)) (hc : w.cell? a = some v) : Ex P N f w ⟨some d, .load A x, T, p, aft, none⟩ v w := by
  simp [Ex, execOp, hx, Instr.loadAt, Instr.sureAddr, loadVar, hA.h, load, Sem.run, hc]
theorem X_load (hs : St w0 M w H) [hA : AgE P A false] (hx : ev N f x = .pointer (some ⟨b, off, none⟩)) (hm : eB b q (.cells l.toArray T' fr) ∈ H) (hv : l[off]? = some v) : Ex P N f w ⟨some d, .load A x, T, p, aft, none⟩ v w :=
  X_loadc hx (by rw [cell_of_blk (hs.get hm)]; exact hv)
theorem run_loadCells_sub {fr : Nat × Nat} (hb : w.heap[b]? = some (.cells l.toArray T' fr)) (hn : off + n ≤ l.length) : (loadCells ⟨b, off, none⟩ n).run P w = .ok (subl l off n).toArray w := by
  have h := run_loadCells_list (P := P) w ⟨b, off, none⟩ (subl l off n) (fun j u hj => by
    have hadd : (⟨b, off, none⟩ : Addr).add j = ⟨b, off + j, none⟩ := by unfold Addr.add; split <;> simp_all
    rw [hadd, cell_of_blk hb]
    rw [subl_eq, List.getElem?_take] at hj
    split at hj
    · rw [List.getElem?_drop] at hj; exact hj
    · cases hj)
  have hl : (subl l off n).length = n := by rw [subl_eq]; simp; omega
  rw [hl] at h
  exact h
theorem X_loadAb [hA : AgE P A true] [hn : SzE P A n] (hx : ev N f x = .pointer (some ⟨b, off, none⟩)) (hb : w.heap[b]? = some (.cells l.toArray T' fr)) (hl : off + n ≤ l.length) (hv : subl l off n = vl) :
    Ex P N f w ⟨some d, .load A x, T, p, aft, none⟩ (.agg vl.toArray) w := by
  subst hv
  have := run_loadCells_sub (P := P) hb hl
  simp [Ex, execOp, hx, Instr.loadAt, Instr.sureAddr, loadVar, hA.h, hn.h, this]
theorem X_loadA (hs : St w0 M w H) [hA : AgE P A true] [hn : SzE P A n] (hx : ev N f x = .pointer (some ⟨b, off, none⟩)) (hm : eB b q (.cells l.toArray T' fr) ∈ H) (hl : off + n ≤ l.length) (hv : subl l off n = vl) :
    Ex P N f w ⟨some d, .load A x, T, p, aft, none⟩ (.agg vl.toArray) w := X_loadAb hx (hs.get hm) hl hv
/-- From a row of which the cells are known one by one. -/
theorem X_loadAc [hA : AgE P A true] [hn : SzE P A n] (hx : ev N f x = .pointer (some ⟨b, off, none⟩)) (hl : vl.length = n) (hc : ∀ j u, vl[j]? = some u → w.cell? ⟨b, off + j, none⟩ = some u) :
    Ex P N f w ⟨some d, .load A x, T, p, aft, none⟩ (.agg vl.toArray) w := by
  have h := run_loadCells_list (P := P) w ⟨b, off, none⟩ vl (fun j u hj => by
    have hadd : (⟨b, off, none⟩ : Addr).add j = ⟨b, off + j, none⟩ := by unfold Addr.add; split <;> simp_all
    rw [hadd]; exact hc j u hj)
  rw [hl] at h
  simp [Ex, execOp, hx, Instr.loadAt, Instr.sureAddr, loadVar, hA.h, hn.h, h]
theorem X_fieldAddr [h : FdE P A m n] {k : Nat} (hx : ev N f x = .pointer (some ⟨b, off, none⟩)) (hk : off + n = k) : Ex P N f w ⟨some d, .fieldAddr A x m, T, p, aft, none⟩ (.pointer (some ⟨b, k, none⟩)) w := by
  subst hk
  have hadd : (⟨b, off, none⟩ : Addr).add n = ⟨b, off + n, none⟩ := by unfold Addr.add; split <;> simp_all
  simp [Ex, execOp, hx, h.h, hadd]
theorem X_indexAddr {k : IntKind} {i : Int} {len cap size e : Nat} [hA : UnE P A (.slice E)] [hn : SzE P E size] (hx : ev N f x = .slice (some ⟨b, off, none⟩) len cap) (hy : ev N f y = .int k i) (h0 : 0 ≤ i) (h1 : i < len)
    (he : off + i.toNat * size = e) : Ex P N f w ⟨some d, .indexAddr A x y, T, p, aft, none⟩ (.pointer (some ⟨b, e, none⟩)) w := by
  subst he
  have hadd : ∀ k, (⟨b, off, none⟩ : Addr).add k = ⟨b, off + k, none⟩ := by intro k; unfold Addr.add; split <;> simp_all
  simp [Ex, execOp, hx, hy, Instr.indexAt, run_underlying hA.h, asIntOf, h0, h1, hn.h, hadd]
def bt (s : ByteArray) (i : Int) : Int := (s.data.toList.getD i.toNat 0).toNat
theorem bt_range (s : ByteArray) (i : Int) : 0 ≤ bt s i ∧ bt s i ≤ 255 := by
  unfold bt; have := (s.data.toList.getD i.toNat 0).toNat_lt; omega
theorem X_indexS {k : IntKind} {i : Int} {s : ByteArray} [hA : UnE P A .string] (hx : ev N f x = .string s) (hy : ev N f y = .int k i) (h0 : 0 ≤ i) (h1 : i < s.size) :
    Ex P N f w ⟨some d, .index A x y, T, p, aft, none⟩ (.int .u8 (bt s i)) w := by
  have hi : i.toNat < s.size := by omega
  have e : s[i.toNat]? = some s[i.toNat] := by simp [hi]
  have e2 : bt s i = (s[i.toNat].toNat : Int) := by
    unfold bt
    have : s.data.toList.getD i.toNat 0 = s[i.toNat] := by
      rw [List.getD_eq_getElem?_getD]
      have h3 : s.data.toList[i.toNat]? = some s[i.toNat] := by
        rw [Array.getElem?_toList]; exact Array.getElem?_eq_getElem (show i.toNat < s.data.size from hi)
      rw [h3]; rfl
    rw [this]
  have h : (Instr.index A (.string s) (.int k i)).run P w = .ok (.int .u8 (s[i.toNat].toNat)) w := by
    have h3 : (if 0 ≤ i then s[i.toNat]? else none) = some s[i.toNat] := by rw [if_pos h0, e]
    unfold Instr.index
    simp only [asIntOf, Sem.run_bind, Sem.run_pure, Result.andThen_ok, run_underlying hA.h, h3]
  rw [e2]
  simp [Ex, execOp, hx, hy, h]

/-! ### new blocks and stores -/
theorem W_alloc (hs : St w0 M w H) [hz : ZlE P A vl] (k : ∀ w' g, St w0 M w' (eB g true (Blk A vl) :: H) → w.heap.size ≤ g → Fm [] w w' → WL X P N ops Q rest (upd f d (.pointer (some ⟨g, 0, none⟩))) w') :
    WL X P N ops Q (⟨some d, .alloc A, T, p, aft, none⟩ :: rest) f w := by
  obtain ⟨z, h1, h2⟩ := hz.h
  refine WL_v (v := .pointer (some ⟨w.heap.size, 0, none⟩)) (w' := w.alloc (Blk A vl)) ?_ (k _ _ (hs.new _) (Nat.le_refl _) (fm_alloc _ _))
  simp [Ex, execOp, Instr.alloc, h1, newVar, newRow, newObj, Sem.run, h2]
theorem W_box (hs : St w0 M w H) (hx : ev N f x = v) (hv : v.cells = vl.toArray) (k : ∀ w' g, St w0 M w' (eB g true (Blk A vl) :: H) → w.heap.size ≤ g → Fm [] w w' → WL X P N ops Q rest (upd f d (.pointer (some ⟨g, 0, none⟩))) w') :
    WL X P N ops Q (⟨some d, .box A x, T, p, aft, none⟩ :: rest) f w := by
  refine WL_v (v := .pointer (some ⟨w.heap.size, 0, none⟩)) (w' := w.alloc (Blk A vl)) ?_ (k _ _ (hs.new _) (Nat.le_refl _) (fm_alloc _ _))
  simp [Ex, execOp, Instr.box, hx, newVar, newRow, newObj, Sem.run, hv]
theorem run_storeCells_spl (vs : List Value) : ∀ (l : List Value) (i : Nat) (w : World), w.heap[b]? = some (Blk T' l) → off + i + vs.length ≤ l.length → (∀ u ∈ vs, u.oneCell' = true) →
    ∃ w', (storeCells ⟨b, off, none⟩ vs i).run P w = .ok () w' ∧ Fm [b] w w' ∧ w'.heap[b]? = some (Blk T' (spl l (off + i) vs)) ∧ w'.heap.size = w.heap.size := by
  induction vs with
  | nil => intro l i w hb _ _; exact ⟨w, by simp [storeCells], Fm.refl _ _, hb, rfl⟩
  | cons u vs ih =>
    intro l i w hb hl h1
    have hadd : (⟨b, off, none⟩ : Addr).add i = ⟨b, off + i, none⟩ := by unfold Addr.add; split <;> simp_all
    simp only [List.length_cons] at hl
    have hc : w.cell? ⟨b, off + i, none⟩ = some l[off + i] := by rw [cell_of_blk hb]; simp
    have hfz : w.frozen? ⟨b, off + i, none⟩ = false := by simp [World.frozen?, hb]
    have hb' : (w.setCell ⟨b, off + i, none⟩ u).heap[b]? = some (Blk T' (l.set (off + i) u)) := by
      simp [World.setCell, Array.getElem?_modify, hb, Blk]
    obtain ⟨w', h2, h3, h4, h5⟩ := ih (l.set (off + i) u) (i + 1) (w.setCell ⟨b, off + i, none⟩ u) hb' (by simp; omega) (fun z hz => h1 z (.tail _ hz))
    have hf : Fm [b] w (w.setCell ⟨b, off + i, none⟩ u) := ⟨rfl, rfl, rfl, by simp [World.setCell], fun k hk hn => Below.heap_setCell _ _ _ _ (by simpa using hn)⟩
    refine ⟨w', ?_, hf.trans h3 (fun x hx _ => hx), h4, by rw [h5]; simp [World.setCell]⟩
    have hu := h1 u (.head _)
    have hst : ∀ (k : Sem Unit), (Sem.store .plain (⟨b, off + i, none⟩ : Addr) u k).run P w = k.run P (w.setCell ⟨b, off + i, none⟩ u) := fun k => by
      cases u <;> first
        | (simp [Value.oneCell'] at hu; done)
        | simp [Sem.run, hc, hfz]
    simp only [storeCells, hadd, store, Sem.run_bind]
    rw [hst]
    simp [Sem.run, h2]
theorem W_store (hs : St w0 M w H) [hn : SzE P A n] (hx : ev N f x = .pointer (some ⟨b, off, none⟩)) (hy : ev N f y = v) (hv : v.cells = vl.toArray) (hr : Rep (eB b true (Blk T' l)) (eB b true (Blk T' m')) H H') (hm : spl l off vl = m')
    (hl : vl.length = n) (hlt : off + n ≤ l.length) (h1 : vl.all (·.oneCell') = true) (k : ∀ w', St w0 M w' H' → Fm [b] w w' → WL X P N ops Q rest f w') :
    WL X P N ops Q (⟨none, .store A x y, T, p, aft, none⟩ :: rest) f w := by
  subst hm
  have hb := hs.get hr.mem
  obtain ⟨w', h2, h3, h4, h5⟩ := run_storeCells_spl (P := P) (off := off) vl l 0 w hb (by omega) (by simpa using h1)
  refine WL_u (w' := w') ?_ (k w' (hs.rep hr rfl h3 h4 (fun z hz => .inl hz)) h3)
  have hsz : v.cells.size = n := by rw [hv]; simpa using hl
  simp [ExU, execOp, hx, hy, Instr.storeAt, Instr.sureAddr, storeVar, hn.h, hsz]
  rw [hv]; simp [h2]

/-! ### calls -/
theorem W_call {fn : FuncId} [hc : CallE P fn] {xs : Array Operand} {Ts : Array TypeId} {vs : Array Value} {R : Value → World → Prop} (hv : xs.map (ev N f) = vs) (h : Ret P fn vs w R) (k : ∀ v w', R v w' → WL X P N ops Q rest (upd f d v) w') :
    WL X P N ops Q (⟨some d, .call ⟨.value (.func fn), xs, Ts⟩, T, p, aft, none⟩ :: rest) f w := by
  unfold WL
  refine wpList_plain rfl fun K hK => ?_
  unfold Oper.wp
  rw [FA_eval]
  have hr : (execOp (ev N f) ⟨some d, .call ⟨.value (.func fn), xs, Ts⟩, T, p, aft, none⟩).run P w = .ok (.enter fn vs) w := by
    simp [execOp, resolve, Deferred.ofValue, ev, invoke, hv, hc.h]
  rw [hr, Oper.upon_enter]
  refine Calls.mono h ?_
  rintro e w' ⟨v, rfl, hR⟩
  dsimp only
  rw [FA_put]
  exact hK _ _ (k v w' hR)
theorem W_callv {fn : FuncId} [hc : CallE P fn] {xs : Array Operand} {Ts : Array TypeId} {vs : Array Value} {first cap : Array Value} {R : Value → World → Prop} (hx : ev N f x = .func (.func fn) first cap) (hv : xs.map (ev N f) = vs) (h : Ret P fn (first ++ vs ++ cap) w R) (k : ∀ v w', R v w' → WL X P N ops Q rest (upd f d v) w') :
    WL X P N ops Q (⟨some d, .call ⟨.value x, xs, Ts⟩, T, p, aft, none⟩ :: rest) f w := by
  unfold WL
  refine wpList_plain rfl fun K hK => ?_
  unfold Oper.wp
  rw [FA_eval]
  have hr : (execOp (ev N f) ⟨some d, .call ⟨.value x, xs, Ts⟩, T, p, aft, none⟩).run P w = .ok (.enter fn (first ++ vs ++ cap)) w := by
    simp [execOp, resolve, Deferred.ofValue, hx, invoke, hv, hc.h]
  rw [hr, Oper.upon_enter]
  refine Calls.mono h ?_
  rintro e w' ⟨v, rfl, hR⟩
  dsimp only
  rw [FA_put]
  exact hK _ _ (k v w' hR)

/-! ### results -/
inductive ResV (P : Program) (N : Nat) (f : Fr) (w : World) : List ResultVar → List Value → Prop
  | nil : ResV P N f w [] []
  | tmp {t : Nat} {v : Value} {rs : List ResultVar} {vs : List Value} (h : ev N f (.tmp t) = v) (k : ResV P N f w rs vs) : ResV P N f w (.tmp t :: rs) (v :: vs)
  | cell {t : Nat} {A : TypeId} {a : Addr} {v : Value} {rs : List ResultVar} {vs : List Value} (h : ev N f (.tmp t) = .pointer (some a)) (hl : (loadVar A a).run P w = .ok v w) (k : ResV P N f w rs vs) : ResV P N f w (.cell t A :: rs) (v :: vs)
def gRes (N : Nat) (f : Fr) : ResultVar → Sem Value
  | .tmp t => pure ((FA X0 N f).tmps.getD t undef)
  | .cell a t => do loadVar t (← asAddr ((FA X0 N f).tmps.getD a undef))
theorem results_gRes (fn : Func) : results fn (FA X0 N f).tmps = (do let vs ← fn.results.mapM (gRes N f); pure (if h : vs.size = 1 then vs[0] else .tuple vs)) := by
  unfold results
  congr 2
theorem run_resV {rs : List ResultVar} {vs : List Value} (h : ResV P N f w rs vs) :
    (rs.mapM (gRes N f)).run P w = .ok vs w := by
  induction h with
  | nil => simp
  | tmp h _ ih =>
    rw [List.mapM_cons, Sem.run_bind]
    have h' : (FA X0 N f).tmps.getD _ undef = _ := (FA_get X0 N f _).trans ((ev_tmp N f _).symm.trans h)
    simp only [gRes, h']
    simp only [Sem.run_pure, Result.andThen_ok, Sem.run_bind, ih]
  | @cell t A a v rs vs h hl _ ih =>
    rw [List.mapM_cons, Sem.run_bind]
    have h' : (FA X0 N f).tmps.getD t undef = _ := (FA_get X0 N f _).trans ((ev_tmp N f _).symm.trans h)
    have hA : (asAddr ((FA X0 N f).tmps.getD t undef)) = pure a := by rw [h']; rfl
    simp only [gRes, hA]
    simp only [Sem.run_pure, Result.andThen_ok, Sem.run_bind, hl, ih]
theorem Post_mk {fn : Func} {R : Value → World → Prop} {rs : List ResultVar} {vs : List Value} (hr : fn.results = rs.toArray) (h : ResV P N f w rs vs) (v : Value) (hv : v = (match vs with | [u] => u | _ => .tuple vs.toArray)) (hR : R v w) :
    ∃ v, (results fn (FA X0 N f).tmps).run P w = .ok v w ∧ R v w := by
  refine ⟨v, ?_, hR⟩
  have h1 := run_resV h
  have h2 : (fn.results.mapM (gRes N f)).run P w = .ok vs.toArray w := by
    rw [hr, List.mapM_toArray]
    show Sem.run P (Functor.map _ _) w = _
    rw [map_eq_pure_bind, Sem.run_bind, h1]
    simp
  rw [results_gRes, Sem.run_bind, h2]
  subst hv
  cases vs with
  | nil => simp
  | cons a vs => cases vs <;> simp
theorem Post_r {fn : Func} {R : Value → World → Prop} {rs : List ResultVar} {vs : List Value} (hr : fn.results = rs.toArray) (h : ResV P N f w rs vs) (hR : R (match vs with | [u] => u | _ => .tuple vs.toArray) w) : PostF P fn N R .ret f w := Post_mk hr h _ rfl hR
theorem Post_n {fn : Func} {R : Value → World → Prop} {rs : List ResultVar} {vs : List Value} (hr : fn.results = rs.toArray) (h : ResV P N f w rs vs) (hR : R (match vs with | [u] => u | _ => .tuple vs.toArray) w) : PostF P fn N R .normal f w := Post_mk hr h _ rfl hR
end
end Go.Proofs.YtkbldndbofbkcaaGreatDoor
/- The engine, part E: pieces found by instances; structs and slices that are built; append; strings and bytes. -/
namespace Go.Proofs.YtkbldndbofbkcaaGreatDoor
open Go Go.RowKit

class InB (b : Nat) (H : List Ent) (q : outParam Bool) (o : outParam Obj) : Prop where h : eB b q o ∈ H
instance InB.there {b : Nat} {H : List Ent} {q : Bool} {o : Obj} {x : Ent} [h : InB b H q o] : InB b (x :: H) q o := ⟨.tail _ h.h⟩
instance (priority := high) InB.here {b : Nat} {H : List Ent} {q : Bool} {o : Obj} : InB b (eB b q o :: H) q o := ⟨.head _⟩
class RpB (b : Nat) (H : List Ent) (o : outParam Obj) (F : outParam (Obj → List Ent)) : Prop where h : ∀ o', Rep (eB b true o) (eB b true o') H (F o')
instance RpB.there {b : Nat} {H : List Ent} {o : Obj} {F : Obj → List Ent} {x : Ent} [h : RpB b H o F] : RpB b (x :: H) o (fun o' => x :: F o') := ⟨fun o' => .there (h.h o')⟩
instance (priority := high) RpB.here {b : Nat} {H : List Ent} {o : Obj} : RpB b (eB b true o :: H) o (fun o' => eB b true o' :: H) := ⟨fun _ => .here⟩
class InR (a : Option Addr) (n cap : outParam Nat) (H : List Ent) (E size : outParam Nat) (xs : outParam (List Value)) : Prop where h : eR (.slice a n cap) E size n xs ∈ H
instance InR.there {a : Option Addr} {n cap : Nat} {H : List Ent} {E size : Nat} {xs : List Value} {x : Ent} [h : InR a n cap H E size xs] : InR a n cap (x :: H) E size xs := ⟨.tail _ h.h⟩
instance (priority := high) InR.here {a : Option Addr} {n cap : Nat} {H : List Ent} {E size : Nat} {xs : List Value} : InR a n cap (eR (.slice a n cap) E size n xs :: H) E size xs := ⟨.head _⟩
class RpR (a : Option Addr) (n cap : outParam Nat) (H : List Ent) (E size : outParam Nat) (xs : outParam (List Value)) (F : outParam (Ent → List Ent)) : Prop where h : ∀ e, Rep (eR (.slice a n cap) E size n xs) e H (F e)
instance RpR.there {a : Option Addr} {n cap : Nat} {H : List Ent} {E size : Nat} {xs : List Value} {F : Ent → List Ent} {x : Ent} [h : RpR a n cap H E size xs F] : RpR a n cap (x :: H) E size xs (fun e => x :: F e) := ⟨fun e => .there (h.h e)⟩
instance (priority := high) RpR.here {a : Option Addr} {n cap : Nat} {H : List Ent} {E size : Nat} {xs : List Value} : RpR a n cap (eR (.slice a n cap) E size n xs :: H) E size xs (fun e => e :: H) := ⟨fun _ => .here⟩

theorem ownsRow_base {w : World} {B : Nat} {E : TypeId} {size n : Nat} {v : Value} {xs : List Value} (h : w.ownsRow B E size v n xs) : w.ownsRow 0 E size v n xs := by
  obtain ⟨h1, h2⟩ := h
  refine ⟨h1, ?_⟩
  rcases h2 with h2 | ⟨g, cap, cur, hv, hb, hg, r⟩
  · exact .inl h2
  · exact .inr ⟨g, cap, cur, hv, Nat.zero_le _, hg, r⟩
theorem ownsRow_form {w : World} {B : Nat} {E : TypeId} {size n : Nat} {v : Value} {xs : List Value} (h : w.ownsRow B E size v n xs) : ∃ a cap, v = .slice a n cap := by
  rcases h.2 with ⟨h2, h3⟩ | ⟨g, cap, cur, hv, _⟩
  · subst h3; exact ⟨_, _, h2⟩
  · exact ⟨_, _, hv⟩
/-- A slice in new memory. -/
def NewR (w w' : World) (E size n : Nat) (v : Value) (xs : List Value) : Prop := w'.ownsRow w.heap.size E size v n xs
theorem NewR.form {w w' : World} {E size n : Nat} {v : Value} {xs : List Value} (h : NewR w w' E size n v xs) : ∃ a cap, v = .slice a n cap := ownsRow_form h
theorem NewR.fp {w w' : World} {E size n : Nat} {v : Value} {xs : List Value} (h : NewR w w' E size n v xs) : ∀ b ∈ (eR v E size n xs).fp, w.heap.size ≤ b := fun b hb => (h.lt b (by simpa [eR] using hb)).1
theorem St.callR {w0 w w' : World} {M : List Nat} {H : List Ent} (h : St w0 M w H) (hf : Fm [] w w') {E size n : Nat} {v : Value} {xs : List Value} (hn : NewR w w' E size n v xs) : St w0 M w' (eR v E size n xs :: H) :=
  h.callNew hf (ownsRow_base hn) hn.fp
theorem St.nilR {w0 w : World} {M : List Nat} {H : List Ent} (h : St w0 M w H) (E size : Nat) : St w0 M w (eR (.slice none 0 0) E size 0 [] :: H) :=
  h.put (World.ownsRow_nil _ _ _ _) (fun _ _ b hb => by simp [eR, Value.ownBlock] at hb) (fun _ b hb => by simp [eR, Value.ownBlock] at hb)
/-- What the walk gives back: a row of its own as a slice in new memory. -/
theorem St.newR {w0 w : World} {H : List Ent} (h : St w0 [] w H) {a : Option Addr} {n cap E size : Nat} {xs : List Value} [hr : InR a n cap H E size xs] : NewR w0 w E size n (.slice a n cap) xs := by
  have h1 := h.row hr.h
  have h2 := h.own _ hr.h rfl
  obtain ⟨k1, k2⟩ := h1
  refine ⟨k1, ?_⟩
  rcases k2 with k2 | ⟨g, c, cur, hv, hb, hg, r⟩
  · exact .inl k2
  · refine .inr ⟨g, c, cur, hv, ?_, hg, r⟩
    rcases h2 g (by rw [hv]; simp [eR, Value.ownBlock]) with h3 | h3
    · exact h3
    · cases h3
/-- A slice that is read: its cells. -/
def Rd (w : World) (a : Option Addr) (n size : Nat) (xs : List Value) : Prop :=
  xs.length = n * size ∧ (xs ≠ [] → ∃ b off, a = some ⟨b, off, none⟩ ∧ ∀ j u, xs[j]? = some u → w.cell? ⟨b, off + j, none⟩ = some u)
theorem Rd.fm {w w' : World} {a : Option Addr} {n size : Nat} {xs : List Value} (h : Rd w a n size xs) (hf : Fm [] w w') : Rd w' a n size xs :=
  ⟨h.1, fun hn => by obtain ⟨b, off, e, hc⟩ := h.2 hn; exact ⟨b, off, e, fun j u hj => hf.cell (hc j u hj) (by simp)⟩⟩
theorem Rd.of_row {w : World} {B : Nat} {a : Option Addr} {n cap E size : Nat} {xs : List Value} (h : w.ownsRow B E size (.slice a n cap) n xs) : Rd w a n size xs := by
  refine ⟨h.1, fun hn => ?_⟩
  rcases h.2 with ⟨h2, h3⟩ | ⟨g, c, cur, hv, _, hg, _, _, hs, ht⟩
  · exfalso; subst h3; exact hn (List.eq_nil_of_length_eq_zero (by have := h.1; omega))
  · injection hv with e1 e2 e3
    refine ⟨g, 0, e1, fun j u hj => ?_⟩
    rw [← ht, List.getElem?_take] at hj
    split at hj
    · simpa [World.cell?, hg] using hj
    · cases hj
theorem St.rd {w0 w : World} {M : List Nat} {H : List Ent} (h : St w0 M w H) {a : Option Addr} {n cap E size : Nat} {xs : List Value} [hr : InR a n cap H E size xs] : Rd w a n size xs := Rd.of_row (h.row hr.h)
/-- The row laid open. -/
theorem St.openN {w0 w : World} {M : List Nat} {H : List Ent} (h : St w0 M w H) {a : Option Addr} {n cap E size : Nat} {xs : List Value} {F : Ent → List Ent} [hr : RpR a n cap H E size xs F] (hn : 0 < n ∨ a ≠ none) :
    ∃ g l, a = some ⟨g, 0, none⟩ ∧ St w0 M w (F (eB g true (Blk E l))) ∧ l.take (n * size) = xs ∧ l.length = cap * size ∧ n ≤ cap := by
  have h1 := h.row (hr.h (eB 0 true (.map #[] 0))).mem
  rcases h1.2 with ⟨h2, h3⟩ | ⟨g, c, cur, hv, _, hg, h4, _, h5, h6⟩
  · injection h2 with h2; rcases hn with hn | hn
    · omega
    · exact absurd h2 hn
  · injection hv with e1 e2 e3
    subst e3
    refine ⟨g, cur.toList, e1, ?_, h6, by simpa using h5, h4⟩
    refine h.rep (hr.h _) rfl (Fm.refl _ _) ?_ ?_
    · show w.heap[g]? = _; rw [hg]
    · intro b hb; simp [eB] at hb; subst hb; left; subst e1; simp [eR, Value.ownBlock]

theorem St.openR {w0 w : World} {M : List Nat} {H : List Ent} (h : St w0 M w H) {a : Option Addr} {n cap E size : Nat} {xs : List Value} {F : Ent → List Ent} [hr : RpR a n cap H E size xs F] (hn : 0 < n) :
    ∃ g l, a = some ⟨g, 0, none⟩ ∧ St w0 M w (F (eB g true (Blk E l))) ∧ l.take (n * size) = xs ∧ l.length = cap * size ∧ n ≤ cap := h.openN (.inl hn)
section
variable {X : Cx} {P : Program} {N : Nat} {Q : Exit → Fr → World → Prop} {f : Fr} {w w0 : World} {M : List Nat} {H H' : List Ent} {ops : Array Oper} {rest : List Oper}
variable {d : Nat} {T A B E : TypeId} {p : String} {aft : Array Edge} {x y c : Operand} {b off n m : Nat} {q : Bool} {l vl : List Value} {fr : Nat × Nat} {T' : TypeId} {v : Value}
/-! ### structs that are built -/
def fillL (place : Nat → Option (Nat × Nat)) (z : List Value) : List (Nat × Value) → Option (List Value)
  | [] => some z
  | (i, v) :: rest =>
    match place i with
    | none => none
    | some (off, size) => if v.cells.size ≠ size ∨ off + size > z.length then none else fillL place (spl z off v.cells.toList) rest
theorem foldl_spl (vs : List Value) : ∀ (z : List Value) (off k : Nat), (vs.zipIdx k).foldl (fun (cs : Array Value) (x : Value × Nat) => cs.setIfInBounds (off + x.2) x.1) z.toArray = (spl z (off + k) vs).toArray := by
  induction vs with
  | nil => intro z off k; rfl
  | cons v vs ih =>
    intro z off k
    simp only [List.zipIdx_cons, List.foldl_cons, spl]
    rw [List.setIfInBounds_toArray, ih]
    rfl
theorem fill_eq (place : Nat → Option (Nat × Nat)) (parts : List (Nat × Value)) : ∀ z : List Value, Instr.fill place z.toArray parts = (fillL place z parts).map List.toArray := by
  induction parts with
  | nil => intro z; rfl
  | cons a parts ih =>
    intro z
    obtain ⟨i, v⟩ := a
    simp only [Instr.fill, fillL]
    cases hp : place i with
    | none => rfl
    | some os =>
      obtain ⟨off, size⟩ := os
      simp only
      by_cases h : v.cells.size ≠ size ∨ off + size > z.length
      · rw [if_pos h, if_pos]
        · rfl
        · simp only [List.size_toArray, Bool.or_eq_true, decide_eq_true_eq]
          rcases h with h | h
          · exact .inl h
          · by_cases h2 : v.cells.size ≠ size
            · exact .inl h2
            · right; have : v.cells.size = size := by simpa using h2
              omega
      · rw [if_neg h, if_neg]
        · rw [← Array.foldl_toList, Array.toList_zipIdx, foldl_spl, ih]; rfl
        · simp only [List.size_toArray, Bool.or_eq_true, decide_eq_true_eq]
          have h1 : v.cells.size = size := by
            by_cases h2 : v.cells.size = size
            · exact h2
            · exact absurd (.inl h2) h
          have h2 : ¬ off + size > z.length := fun h2 => h (.inr h2)
          rintro (h3 | h3)
          · exact h3 h1
          · omega
theorem fdE_mk {fields : Array Field} {i o : Nat} {fd : Field} {s : Nat} (hu : P.underlying T = some (.struct fields)) (hf : fields[i]? = some fd) (ho : fd.offset = o) (hs : ∀ w, (Go.sizeOf fd.type).run P w = .ok s w) (h0 : s ≠ 0) (a : Addr) (w : World) :
    (Instr.fieldAt T (.pointer (some a)) i).run P w = .ok (.pointer (some (a.add o))) w := by
  subst ho
  simp [Instr.fieldAt, run_underlying hu, hf, Instr.sureAddr, fieldPlace, hs, h0]
theorem plE_mk {fields : Array Field} {z : Value} {zl : List Value} {pl : List (Nat × Nat)} (hu : P.underlying T = some (.struct fields)) (hz : ∀ w, (zeroValue T).run P w = .ok z w) (hzl : z.cells = zl.toArray)
    (hp : ∀ w, (fields.toList.mapM (m := Sem) fun (fd : Field) => do pure (fd.offset, ← Go.sizeOf fd.type)).run P w = .ok pl w) (parts : Array (Nat × Value)) (w : World) (cells : Array Value) (h : Instr.fill (fun i => pl[i]?) zl.toArray parts.toList = some cells) :
    (Instr.build T parts).run P w = .ok (.agg cells) w := by
  have h2 : (fields.mapM (m := Sem) fun (fd : Field) => do pure (fd.offset, ← Go.sizeOf fd.type)).run P w = .ok pl.toArray w := by
    rw [← Array.toArray_toList (xs := fields), List.mapM_toArray]
    show Sem.run P (Functor.map _ _) w = _
    rw [map_eq_pure_bind, Sem.run_bind]
    rw [Array.toArray_toList, hp w]; simp
  unfold Instr.build
  simp only [Sem.run_bind, hz, Result.andThen_ok, run_underlying hu, h2, hzl]
  have h3 : Instr.fill (fun x => pl.toArray[x]?) zl.toArray parts.toList = some cells := by
    have e : (fun x : Nat => pl.toArray[x]?) = (fun i : Nat => pl[i]?) := by funext i; simp
    rw [e]; exact h
  rw [h3]
  simp
theorem X_build {pl : List (Nat × Nat)} {z : List Value} [hp : PlE P A pl z] {parts : List (Nat × Operand)} {vs : List (Nat × Value)} (hv : parts.map (fun ix => (ix.1, ev N f ix.2)) = vs) (hl : fillL (fun i => pl[i]?) z vs = some vl) :
    Ex P N f w ⟨some d, .build A parts.toArray, T, p, aft, none⟩ (.agg vl.toArray) w := by
  have h := hp.h (parts.toArray.map fun (i, x) => (i, ev N f x)) w vl.toArray (by
    rw [fill_eq]
    have e : (parts.toArray.map fun (x : Nat × Operand) => (x.1, ev N f x.2)).toList = vs := by simpa using hv
    rw [e, hl]; rfl)
  simp only [Ex, execOp]
  rw [Sem.run_bind]
  simp only [Sem.run_bind, h, Result.andThen_ok, Sem.run_pure]

/-! ### slices that are built -/
/-- The parts of a slice, in order, each of its size. -/
inductive BS (N : Nat) (f : Fr) (size : Nat) : Nat → List (Nat × Operand) → List Value → Prop
  | nil {i : Nat} : BS N f size i [] []
  | cons {i : Nat} {x : Operand} {ps : List (Nat × Operand)} {vl out : List Value} (v : Value) (hx : ev N f x = v) (hv : v.cells = vl.toArray) (hl : vl.length = size) (h : BS N f size (i + 1) ps out) : BS N f size i ((i, x) :: ps) (vl ++ out)
theorem BS.ii {N : Nat} {f : Fr} {i : Nat} {x : Operand} {ps : List (Nat × Operand)} {out : List Value} {k : IntKind} {n : Int} (hx : ev N f x = .int k n) (h : BS N f 1 (i + 1) ps out) : BS N f 1 i ((i, x) :: ps) (.int k n :: out) := .cons _ hx rfl rfl h
theorem BS.ss {N : Nat} {f : Fr} {i : Nat} {x : Operand} {ps : List (Nat × Operand)} {out : List Value} {s : ByteArray} (hx : ev N f x = .string s) (h : BS N f 1 (i + 1) ps out) : BS N f 1 i ((i, x) :: ps) (.string s :: out) := .cons _ hx rfl rfl h
theorem BS.sl {N : Nat} {f : Fr} {i : Nat} {x : Operand} {ps : List (Nat × Operand)} {out : List Value} {a : Option Addr} {n c : Nat} (hx : ev N f x = .slice a n c) (h : BS N f 1 (i + 1) ps out) : BS N f 1 i ((i, x) :: ps) (.slice a n c :: out) := .cons _ hx rfl rfl h
theorem BS.fn {N : Nat} {f : Fr} {i : Nat} {x : Operand} {ps : List (Nat × Operand)} {out : List Value} {a : Fn} {n c : Array Value} (hx : ev N f x = .func a n c) (h : BS N f 1 (i + 1) ps out) : BS N f 1 i ((i, x) :: ps) (.func a n c :: out) := .cons _ hx rfl rfl h
theorem BS.ag {N : Nat} {f : Fr} {size i : Nat} {x : Operand} {ps : List (Nat × Operand)} {vl out : List Value} (hx : ev N f x = .agg vl.toArray) (hl : vl.length = size) (h : BS N f size (i + 1) ps out) : BS N f size i ((i, x) :: ps) (vl ++ out) := .cons _ hx rfl hl h
theorem spl_at (vs : List Value) : ∀ (pre zs : List Value), vs.length ≤ zs.length → spl (pre ++ zs) pre.length vs = pre ++ vs ++ zs.drop vs.length := by
  induction vs with
  | nil => intro pre zs _; simp [spl]
  | cons v vs ih =>
    intro pre zs h
    cases zs with
    | nil => simp at h
    | cons z zs =>
      have e : (pre ++ z :: zs).set pre.length v = (pre ++ [v]) ++ zs := by simp
      rw [spl, e]
      have := ih (pre ++ [v]) zs (by simpa using h)
      simp only [List.length_append, List.length_singleton] at this
      rw [this]; simp
theorem fillL_bs {size i : Nat} {ps : List (Nat × Operand)} {out : List Value} (h : BS N f size i ps out) : ∀ (pre zs : List Value), pre.length = i * size → zs.length = ps.length * size →
    fillL (fun i => some (i * size, size)) (pre ++ zs) (ps.map fun ix => (ix.1, ev N f ix.2)) = some (pre ++ out) := by
  induction h with
  | nil => intro pre zs _ hz; simp at hz; subst hz; rfl
  | @cons i x ps vl out v hx hv hl _ ih =>
    intro pre zs hp hz
    simp only [List.map_cons, fillL, hx, hv, List.size_toArray, hl]
    have hz' : zs.length = (ps.length + 1) * size := by simpa using hz
    have hmul : (ps.length + 1) * size = ps.length * size + size := Nat.succ_mul _ _
    have hmul2 : (i + 1) * size = i * size + size := Nat.succ_mul _ _
    rw [if_neg (by simp; omega), ← hp]
    have hs := spl_at vl pre zs (by omega)
    rw [hs, hl]
    have := ih (pre ++ vl) (zs.drop size) (by simp; omega) (by simp; omega)
    rw [this]; simp
theorem W_bslice (hs : St w0 M w H) [hA : UnE P A (.slice E)] [hn : SzE P E n] [hz : ZlE P E l] {parts : List (Nat × Operand)} {k : Nat} (hps : BS N f n 0 parts vl) (hk : parts.length = k) (hsm : k * n ≤ 16777216)
    (K : ∀ w' g, St w0 M w' (eB g true (Blk E vl) :: H) → w.heap.size ≤ g → Fm [] w w' → WL X P N ops Q rest (upd f d (.slice (some ⟨g, 0, none⟩) k k)) w') :
    WL X P N ops Q (⟨some d, .buildSlice A k parts.toArray, T, p, aft, none⟩ :: rest) f w := by
  refine WL_v (v := .slice (some ⟨w.heap.size, 0, none⟩) k k) (w' := w.alloc (Blk E vl)) ?_ (K _ _ (hs.new _) (Nat.le_refl _) (fm_alloc _ _))
  obtain ⟨z, h1, h2⟩ := hz.h
  have key : ∀ za : Array Value, za.size = k * n → Instr.fill (fun i => some (i * n, n)) za ((parts.toArray.map fun (x : Nat × Operand) => (x.1, ev N f x.2))).toList = some vl.toArray := fun za hza => by
    rw [← Array.toArray_toList (xs := za), fill_eq]
    have := fillL_bs hps [] za.toList (by simp) (by simpa [hk] using hza)
    simp only [List.nil_append] at this
    simp [this]
  have hk2 := fun zz : Array Value => key ((Array.range (k * n)).map fun i => zz[i % zz.size]!) (by simp)
  have hr : (Instr.buildSlice A k (parts.toArray.map fun (x : Nat × Operand) => (x.1, ev N f x.2))).run P w = .ok (.slice (some ⟨w.heap.size, 0, none⟩) k k) (w.alloc (Blk E vl)) := by
    unfold Instr.buildSlice
    simp only [Sem.run_bind, run_underlying hA.h, Result.andThen_ok, hn.h]
    rw [if_neg (by omega)]
    split
    · simp only [Sem.run_bind, Sem.run_pure, Result.andThen_ok, hk2]
      simp [newRow, newObj, Sem.run]
    · simp only [Sem.run_bind, h1, Sem.run_pure, Result.andThen_ok, hk2]
      simp [newRow, newObj, Sem.run]
  simp only [Ex, execOp, Sem.run_bind, hr, Result.andThen_ok, Sem.run_pure]

/-! ### slicing -/
/-- Where the cells of s[lo:] begin. -/
def sla (off lo cap size : Nat) : Nat := if cap = lo then off else off + lo * size
theorem sla_lt {off lo cap size : Nat} (h : lo < cap) : sla off lo cap size = off + lo * size := if_neg (by omega)
theorem sla_0 (off cap size : Nat) : sla off 0 cap size = off := by unfold sla; split <;> simp
theorem X_slice_lh {k k' : IntKind} {lo hi : Int} {len cap : Nat} [hA : UnE P A (.slice E)] [hn : SzE P E n] {u : Operand} (hx : ev N f x = .slice (some ⟨b, off, none⟩) len cap) (hy : ev N f y = .int k lo) (hu : ev N f u = .int k' hi) (h0 : 0 ≤ lo) (h1 : lo ≤ hi) (h2 : hi ≤ cap) :
    Ex P N f w ⟨some d, .slice A x (some y) (some u) none, T, p, aft, none⟩ (.slice (some ⟨b, sla off lo.toNat cap n, none⟩) (hi.toNat - lo.toNat) (cap - lo.toNat)) w := by
  have hadd : ∀ k, (⟨b, off, none⟩ : Addr).add k = ⟨b, off + k, none⟩ := by intro k; unfold Addr.add; split <;> simp_all
  have hh : 0 ≤ hi := by omega
  have h3 : lo ≤ (hi.toNat : Int) := by omega
  have ea : (if cap = lo.toNat then (⟨b, off, none⟩ : Addr) else ⟨b, off + lo.toNat * n, none⟩) = ⟨b, sla off lo.toNat cap n, none⟩ := by unfold sla; split <;> rfl
  simp [Ex, execOp, hx, hy, hu, Instr.sliceAt, Instr.slice, Instr.sliceBounds, Instr.sliceBound, asIntOf, run_underlying hA.h, hn.h, h0, h1, h2, hh, h3, hadd]
  rw [if_pos (show lo ≤ max hi 0 by omega)]
  unfold sla
  by_cases h : cap = lo.toNat
  · simp only [if_pos h]
  · simp only [if_neg h]
end
end Go.Proofs.YtkbldndbofbkcaaGreatDoor
/- The engine, part F: append, strings and bytes, more slicing. -/
namespace Go.Proofs.YtkbldndbofbkcaaGreatDoor
open Go Go.RowKit
/-- Bytes as cells. -/
def bv (bs : List UInt8) : List Value := bs.map fun b => .int .u8 (b.toNat : Int)
theorem bv_length (bs : List UInt8) : (bv bs).length = bs.length := by simp [bv]
theorem bv_append (a b : List UInt8) : bv (a ++ b) = bv a ++ bv b := by simp [bv]
theorem bv_take (a : List UInt8) (n : Nat) : bv (a.take n) = (bv a).take n := by simp [bv]
theorem bv_drop (a : List UInt8) (n : Nat) : bv (a.drop n) = (bv a).drop n := by simp [bv]
theorem bv_oneCell (bs : List UInt8) : ∀ u ∈ bv bs, u.oneCell' = true := by
  intro u hu; simp [bv] at hu; obtain ⟨b, _, rfl⟩ := hu; rfl
/-- A string of bytes. -/
def str (bs : List UInt8) : ByteArray := ⟨bs.toArray⟩
theorem str_data (bs : List UInt8) : (str bs).data.toList = bs := rfl
theorem str_of (s : ByteArray) : str s.data.toList = s := rfl
theorem str_size (bs : List UInt8) : (str bs).size = bs.length := rfl
theorem foldl_push (bs : List UInt8) : ∀ s : ByteArray, (bs.map fun b : UInt8 => (b.toNat : Int)).foldl (fun r n => r.push (UInt8.ofNat n.toNat)) s = ⟨s.data ++ bs.toArray⟩ := by
  induction bs with
  | nil => intro s; simp
  | cons b bs ih =>
    intro s
    simp only [List.map_cons, List.foldl_cons, ih]
    have e : UInt8.ofNat ((b.toNat : Int)).toNat = b := by simp
    rw [e]
    have : (s.push b).data = s.data.push b := rfl
    rw [this]
    simp
section
variable {X : Cx} {P : Program} {N : Nat} {Q : Exit → Fr → World → Prop} {f : Fr} {w w0 : World} {M : List Nat} {H H' : List Ent} {ops : Array Oper} {rest : List Oper}
variable {d : Nat} {T A B E : TypeId} {p : String} {aft : Array Edge} {x y c : Operand} {b off n m : Nat} {q : Bool} {l vl xs ys : List Value} {fr : Nat × Nat} {T' : TypeId} {v : Value} {size bytes : Nat}
/-! ### append -/
theorem run_append_any {w : World} [hA : UnE P A (.slice E)] [he : ElE P E vl size bytes] {a : Option Addr} {cap : Nat} {a' : Option Addr} {cap' : Nat} (hsz : 0 < size) (hzl : vl.length = size) (hown : w.ownsRow 0 E size (.slice a n cap) n xs) (hr : Rd w a' m size ys)
    (h1 : ∀ u ∈ ys, u.oneCell' = true) (hb : (n + m) * bytes ≤ 140737488355328) (h63 : n + m ≤ maxLen) (hnil : ys = [] → a' = none → cap' = 0) :
    ∃ a2 c2 w', (Builtin.append_ #[A, A] T #[.slice a n cap, .slice a' m cap']).run P w = .ok (.slice a2 (n + m) c2) w' ∧ w'.ownsRow 0 E size (.slice a2 (n + m) c2) (n + m) (xs ++ ys) ∧ w.grownBy w' (Value.slice a n cap).ownBlock ∧
      (∀ b ∈ (eR (.slice a2 (n + m) c2) E size (n + m) (xs ++ ys)).fp, b ∈ (eR (.slice a n cap) E size n xs).fp ∨ w.heap.size ≤ b) ∧ (a2 = none → a = none) := by
  obtain ⟨i, z, e1, e2, e3, e4, e5⟩ := he.h
  have hzs : z.cells.size = size := by rw [e3]; simpa using hzl
  have key : ∃ v' w', (Builtin.append_ #[A, A] T #[.slice a n cap, .slice a' m cap']).run P w = .ok v' w' ∧ w'.ownsRow 0 E size v' (n + m) (xs ++ ys) ∧ w.grownBy w' (Value.slice a n cap).ownBlock ∧
      (∀ b, v'.ownBlock = some b → (Value.slice a n cap).ownBlock = some b ∨ w.heap.size ≤ b) ∧ (∀ l c, v' = .slice none l c → a = none) := by
    cases a' with
    | none =>
      have hy : ys = [] := by
        cases ys with
        | nil => rfl
        | cons u ys => obtain ⟨b, off, h, _⟩ := hr.2 (by simp); cases h
      have hm : m = 0 := by
        have h0 : m * size = 0 := by rw [← hr.1, hy]; rfl
        rcases Nat.mul_eq_zero.1 h0 with h | h
        · exact h
        · omega
      have hc := hnil hy rfl
      subst hy; subst hm; subst hc
      have := run_append_owned_none (P := P) (w := w) 0 A T E i size hA.h e1 (.slice a n cap) n xs hown
      exact ⟨_, _, this, by simpa using hown, ⟨rfl, rfl, rfl, Nat.le_refl _, fun _ _ _ => rfl⟩, fun b hb => .inl hb, fun l c h => by injection h⟩
    | some ad =>
      have hnews : ∀ j u, ys[j]? = some u → w.cell? (ad.add j) = some u := fun j u hj => by
        obtain ⟨b, off, h, hc⟩ := hr.2 (by intro hq; rw [hq] at hj; simp at hj)
        have hadd : ad.add j = ⟨b, off + j, none⟩ := by injection h with h; subst h; unfold Addr.add; split <;> simp_all
        rw [hadd]; exact hc j u hj
      rcases hown.2 with ⟨hv, hn0⟩ | ⟨g, cp, cur, hv, _, hg, hnc, hcm, hcs, htake⟩
      · have hown2 : w.ownsRow w.heap.size E size (.slice a n cap) n xs := ⟨hown.1, .inl ⟨hv, hn0⟩⟩
        obtain ⟨v', w', k1, k2, k3, _⟩ := run_append_own (P := P) (w := w) w.heap.size A T E i z size bytes hA.h e1 e2 e4 e5 hzs hsz (.slice a n cap) n xs hown2 ad m cap' ys hr.1 hnews h1 h63 hb (Nat.le_refl _)
        exact ⟨v', w', k1, ownsRow_base k2, k3, fun b hb => .inr (k2.lt b hb).1, fun _ _ _ => by injection hv⟩
      · injection hv with q1 q2 q3
        subst q1 q3
        by_cases hroom : n + m ≤ cap
        · obtain ⟨v', w', k1, k2, k3, _⟩ := run_append_own (P := P) (w := w) 0 A T E i z size bytes hA.h e1 e2 e4 e5 hzs hsz (.slice (some ⟨g, 0, none⟩) n cap) n xs hown ad m cap' ys hr.1 hnews h1 h63 hb (Nat.zero_le _)
          have hfit : n * i.size + ys.length ≤ cur.size := by rw [hr.1, hcs, e4, ← Nat.add_mul]; exact Nat.mul_le_mul_right _ hroom
          have k4 := run_append_room (P := P) w A T E i hA.h e1 g n cap cur hg ad m cap' ys (by rw [e4]; exact hr.1) hnews h1 hroom hfit
          rw [k1] at k4
          injection k4 with k5 k6
          subst k5
          exact ⟨_, w', k1, k2, k3, fun b hb => .inl hb, fun l c h => by injection h with h1⟩
        · have holds : ∀ j u, xs[j]? = some u → w.cell? ((⟨g, 0, none⟩ : Addr).add j) = some u := hown.cells (g := g) rfl
          obtain ⟨v', w', k1, k2, k3⟩ := run_append_arg_grows (P := P) w A T E i z size bytes hA.h e1 e2 e4 e5 hzs hsz ⟨g, 0, none⟩ n cap xs hown.1 holds ad m cap' ys hr.1 hnews (by omega) h63 hb
          exact ⟨v', w', k1, ownsRow_base k2, ⟨k3.os, k3.tape, k3.output, k3.size, fun k hk _ => k3.block k hk (by simp)⟩, fun b hb => .inr (k2.lt b hb).1, fun l c h => by
            rcases k2.2 with ⟨_, h0⟩ | ⟨g', c', cur', h0, _⟩
            · omega
            · rw [h] at h0; injection h0 with h0; cases h0⟩
  obtain ⟨v', w', k1, k2, k3, k4, k5⟩ := key
  obtain ⟨a2, c2, rfl⟩ := ownsRow_form k2
  exact ⟨a2, c2, w', k1, k2, k3, fun b hb => by
    rcases k4 b (by simpa [eR] using hb) with h | h
    · left; simpa [eR] using h
    · exact .inr h, fun h => k5 _ _ (by rw [h])⟩
theorem W_append (hs : St w0 M w H) [hA : UnE P A (.slice E)] [he : ElE P E vl size bytes] {a : Option Addr} {cap : Nat} {F : Ent → List Ent} (hx : ev N f x = .slice a n cap) [hrp : RpR a n cap H E size xs F] {a' : Option Addr} {cap' : Nat} (hy : ev N f y = .slice a' m cap') (hr : Rd w a' m size ys)
    (hnil : ys = [] → a' = none → cap' = 0) (h1 : ∀ u ∈ ys, u.oneCell' = true) (hsz : 0 < size) (hzl : vl.length = size) (hb : (n + m) * bytes ≤ 140737488355328) (h63 : n + m ≤ 9223372036854775807)
    (k : ∀ a2 c2 w', St w0 M w' (F (eR (.slice a2 (n + m) c2) E size (n + m) (xs ++ ys))) → (a2 = none → a = none) → WL X P N ops Q rest (upd f d (.slice a2 (n + m) c2)) w') :
    WL X P N ops Q (⟨some d, .call ⟨.builtin .append, #[x, y], #[A, A]⟩, T, p, aft, none⟩ :: rest) f w := by
  have hmem := (hrp.h (eB 0 true (.map #[] 0))).mem
  obtain ⟨a2, c2, w', k1, k2, k3, k4, k5⟩ := run_append_any (P := P) (T := T) (A := A) hsz hzl (hs.row hmem) hr h1 hb (by unfold maxLen; omega) hnil
  refine WL_v (v := .slice a2 (n + m) c2) (w' := w') ?_ (k a2 c2 w' (hs.rep (hrp.h _) rfl ⟨k3.os, k3.tape, k3.output, k3.size, fun j hj hn => k3.block j hj (fun he => hn ?_)⟩ k2 k4) k5)
  · simp [Ex, execOp, resolve, invoke, builtin, hx, hy, k1]
  · simp only [eR, Option.mem_toList]; exact he.symm
/-! ### strings and bytes -/
theorem W_cvBytes (hs : St w0 M w H) [hA : UnE P A .string] [hB : UnE P B (.slice E)] [hE : UnE P E (.int .u8)] {s : ByteArray} (hx : ev N f x = .string s)
    (k : ∀ w' g cap zs k1, St w0 M w' (eB g true (.cells (bv s.data.toList ++ zs).toArray E (k1, k1 + 1)) :: H) → w.heap.size ≤ g → Fm [] w w' → s.size ≤ cap → WL X P N ops Q rest (upd f d (.slice (some ⟨g, 0, none⟩) s.size cap)) w') :
    WL X P N ops Q (⟨some d, .convert A B x, T, p, aft, none⟩ :: rest) f w := by
  have hr := Lib.run_convert_string_bytes (P := P) w A B E s hA.h hB.h hE.h
  have hf : Fm [] w (Lib.bytesWorld w E s) := ⟨rfl, rfl, rfl, by rw [Lib.bytesWorld_size]; omega, fun j hj _ => Lib.bytesWorld_at_old w E s j hj⟩
  have hb := Lib.bytesWorld_at_new w E s
  have hc : Lib.bytesCells w E s = (bv s.data.toList ++ List.replicate (grownCap w s.size 0 E - s.size) (Value.int .u8 0)).toArray := by
    unfold Lib.bytesCells bv
    apply Array.ext'
    simp
  have hcap : s.size ≤ grownCap w s.size 0 E := grownCap_ge w s.size 0 E
  refine WL_v (v := .slice (some ⟨w.heap.size, 0, none⟩) s.size (grownCap w s.size 0 E)) (w' := Lib.bytesWorld w E s) ?_ (k _ w.heap.size _ (List.replicate (grownCap w s.size 0 E - s.size) (.int .u8 0)) (Lib.bytesCells w E s).size ?_ (Nat.le_refl _) hf hcap)
  · simp [Ex, execOp, hx, hr]
  · refine hs.callNew hf ?_ (by intro b hb; simp [eB] at hb; omega)
    show (Lib.bytesWorld w E s).heap[w.heap.size]? = _
    rw [hb, ← hc]
theorem run_bts {w : World} {a : Option Addr} {cap : Nat} {bs : List UInt8} (h : Rd w a n 1 (bv bs)) (hnb : n = bs.length) : (Conv.bytesToString (.slice a n cap)).run P w = .ok (.string (str bs)) w := by
  subst hnb
  cases bs with
  | nil =>
    cases a with
    | none => simp [Conv.bytesToString, str]; rfl
    | some ad => simp [Conv.bytesToString, loadCells, loadCellsFrom, str]; rfl
  | cons b bs =>
    obtain ⟨g, off, rfl, hc⟩ := h.2 (by simp [bv])
    have h1 := run_loadCells_list (P := P) w ⟨g, off, none⟩ (bv (b :: bs)) (fun j u hj => by
      have hadd : (⟨g, off, none⟩ : Addr).add j = ⟨g, off + j, none⟩ := by unfold Addr.add; split <;> simp_all
      rw [hadd]; exact hc j u hj)
    rw [bv_length] at h1
    have h2 := run_bytesToString (P := P) w ⟨g, off, none⟩ (b :: bs).length cap ((b :: bs).map fun b : UInt8 => (b.toNat : Int)) (by rw [h1]; simp [bv])
    rw [h2, foldl_push]
    simp [str]
theorem X_cvStr [hA : UnE P A (.slice E)] [hB : UnE P B .string] [hE : UnE P E (.int .u8)] {a : Option Addr} {cap : Nat} {bs : List UInt8} (hx : ev N f x = .slice a n cap) (h : Rd w a n 1 (bv bs)) (hnb : n = bs.length) :
    Ex P N f w ⟨some d, .convert A B x, T, p, aft, none⟩ (.string (str bs)) w := by
  have hr : (convert A B (.slice a n cap)).run P w = .ok (.string (str bs)) w := by
    simp [convert, run_underlying hA.h, run_underlying hB.h, run_underlying hE.h, run_bts h hnb]
  simp [Ex, execOp, hx, hr]
variable {s t : ByteArray}
theorem str_append (s t : ByteArray) : s ++ t = str (s.data.toList ++ t.data.toList) := by
  have h : (s ++ t).data.toList = s.data.toList ++ t.data.toList := by simp
  rw [← h]; exact (str_of _).symm
theorem X_eqS (hx : ev N f x = .string s) (hy : ev N f y = .string t) : Ex P N f w ⟨some d, .binOp .eql A x y B, T, p, aft, none⟩ (.bool (decide (s.data.toList = t.data.toList))) w := by
  simp only [Ex, execOp, hx, hy, eqGuard, binOp, Op.stringOp, ByteArray.toList_eq]
  rw [show (s.data.toList == t.data.toList) = decide (s.data.toList = t.data.toList) from by rw [Bool.eq_iff_iff]; simp]
  simp
theorem X_neS (hx : ev N f x = .string s) (hy : ev N f y = .string t) : Ex P N f w ⟨some d, .binOp .neq A x y B, T, p, aft, none⟩ (.bool (decide (s.data.toList ≠ t.data.toList))) w := by
  simp only [Ex, execOp, hx, hy, eqGuard, binOp, Op.stringOp, ByteArray.toList_eq]
  rw [show (!(s.data.toList == t.data.toList)) = decide (s.data.toList ≠ t.data.toList) from by rw [Bool.eq_iff_iff]; simp]
  simp
theorem X_ltS (hx : ev N f x = .string s) (hy : ev N f y = .string t) : Ex P N f w ⟨some d, .binOp .lss A x y B, T, p, aft, none⟩ (.bool (Op.bytesLess s.data.toList t.data.toList)) w := by
  simp only [Ex, execOp, hx, hy, eqGuard, binOp, Op.stringOp, ByteArray.toList_eq]; simp
theorem X_gtS (hx : ev N f x = .string s) (hy : ev N f y = .string t) : Ex P N f w ⟨some d, .binOp .gtr A x y B, T, p, aft, none⟩ (.bool (!(Op.bytesLess s.data.toList t.data.toList || s.data.toList == t.data.toList))) w := by
  simp only [Ex, execOp, hx, hy, eqGuard, binOp, Op.stringOp, ByteArray.toList_eq]; simp
theorem X_leS (hx : ev N f x = .string s) (hy : ev N f y = .string t) : Ex P N f w ⟨some d, .binOp .leq A x y B, T, p, aft, none⟩ (.bool (Op.bytesLess s.data.toList t.data.toList || s.data.toList == t.data.toList)) w := by
  simp only [Ex, execOp, hx, hy, eqGuard, binOp, Op.stringOp, ByteArray.toList_eq]; simp
theorem X_geS (hx : ev N f x = .string s) (hy : ev N f y = .string t) : Ex P N f w ⟨some d, .binOp .geq A x y B, T, p, aft, none⟩ (.bool (!(Op.bytesLess s.data.toList t.data.toList))) w := by
  simp only [Ex, execOp, hx, hy, eqGuard, binOp, Op.stringOp, ByteArray.toList_eq]; simp
theorem X_addS (hx : ev N f x = .string s) (hy : ev N f y = .string t) (h : s.size + t.size ≤ 9223372036854775807) : Ex P N f w ⟨some d, .binOp .add A x y B, T, p, aft, none⟩ (.string (str (s.data.toList ++ t.data.toList))) w := by
  have h1 : ¬ ((s.size + t.size : Nat) : Int) > IntKind.i64.max := by simp; omega
  simp only [Ex, execOp, hx, hy, eqGuard, binOp, Op.stringOp]
  rw [if_neg h1, str_append]
  simp
/-! ### slices of slices and of strings -/
variable {u : Operand} {k k' : IntKind} {lo hi : Int} {len cap : Nat}
theorem addr_add (b off k : Nat) : (⟨b, off, none⟩ : Addr).add k = ⟨b, off + k, none⟩ := by unfold Addr.add; split <;> simp_all
theorem run_slice_gen {lo hi : Option Value} {l h : Nat} [hA : UnE P A (.slice E)] [hn : SzE P E n] (hb : (Instr.sliceBounds true len cap lo hi none).run P w = .ok (l, h, cap) w) :
    (Instr.sliceAt A (.slice (some ⟨b, off, none⟩) len cap) lo hi none).run P w = .ok (.slice (some ⟨b, sla off l cap n, none⟩) (h - l) (cap - l)) w := by
  simp only [Instr.sliceAt, Instr.slice, run_underlying hA.h, Sem.run_bind, Result.andThen_ok, hb, hn.h, Sem.run_pure, Option.map_some, addr_add]
  unfold sla
  by_cases h : cap = l
  · simp only [if_pos h]
  · simp only [if_neg h]
theorem X_slice_l [hA : UnE P A (.slice E)] [hn : SzE P E n] (hx : ev N f x = .slice (some ⟨b, off, none⟩) len cap) (hy : ev N f y = .int k lo) (h0 : 0 ≤ lo) (h1 : lo ≤ len) :
    Ex P N f w ⟨some d, .slice A x (some y) none none, T, p, aft, none⟩ (.slice (some ⟨b, sla off lo.toNat cap n, none⟩) (len - lo.toNat) (cap - lo.toNat)) w := by
  have hb : (Instr.sliceBounds true len cap (some (.int k lo)) none none).run P w = .ok (lo.toNat, len, cap) w := by
    simp [Instr.sliceBounds, Instr.sliceBound, asIntOf, h0, h1]
  have := run_slice_gen (P := P) (A := A) (E := E) (n := n) (b := b) (off := off) hb
  simp [Ex, execOp, hx, hy, this]
theorem X_slice_h [hA : UnE P A (.slice E)] [hn : SzE P E n] (hx : ev N f x = .slice (some ⟨b, off, none⟩) len cap) (hu : ev N f u = .int k hi) (h0 : 0 ≤ hi) (h1 : hi ≤ cap) :
    Ex P N f w ⟨some d, .slice A x none (some u) none, T, p, aft, none⟩ (.slice (some ⟨b, off, none⟩) hi.toNat cap) w := by
  have hb : (Instr.sliceBounds true len cap none (some (.int k hi)) none).run P w = .ok (0, hi.toNat, cap) w := by
    simp [Instr.sliceBounds, Instr.sliceBound, asIntOf, h0, h1]
  have := run_slice_gen (P := P) (A := A) (E := E) (n := n) (b := b) (off := off) hb
  rw [sla_0] at this
  simp [Ex, execOp, hx, hu, this]
theorem run_sliceS_gen {s : ByteArray} {lo hi : Option Value} {l h m : Nat} [hA : UnE P A .string] (hb : (Instr.sliceBounds false s.size s.size lo hi none).run P w = .ok (l, h, m) w) :
    (Instr.sliceAt A (.string s) lo hi none).run P w = .ok (.string (s.extract l h)) w := by
  simp [Instr.sliceAt, Instr.slice, run_underlying hA.h, hb]
theorem extract_str (s : ByteArray) (l h : Nat) (hs : h ≤ s.size) : s.extract l h = str ((s.data.toList.drop l).take (h - l)) := by
  have e : (s.extract l h).data.toList = (s.data.toList.drop l).take (h - l) := by
    rw [ByteArray.data_extract, Array.toList_extract]
    try rw [List.extract_eq_take_drop]
  rw [← e]; exact (str_of _).symm
theorem X_sliceS_lh {s : ByteArray} [hA : UnE P A .string] (hx : ev N f x = .string s) (hy : ev N f y = .int k lo) (hu : ev N f u = .int k' hi) (h0 : 0 ≤ lo) (h1 : lo ≤ hi) (h2 : hi ≤ s.size) :
    Ex P N f w ⟨some d, .slice A x (some y) (some u) none, T, p, aft, none⟩ (.string (str ((s.data.toList.drop lo.toNat).take (hi.toNat - lo.toNat)))) w := by
  have hh : 0 ≤ hi := by omega
  have h3 : lo ≤ (hi.toNat : Int) := by omega
  have h4 : lo ≤ max hi 0 := by omega
  have hb : (Instr.sliceBounds false s.size s.size (some (.int k lo)) (some (.int k' hi)) none).run P w = .ok (lo.toNat, hi.toNat, s.size) w := by
    simp [Instr.sliceBounds, Instr.sliceBound, asIntOf, h0, h2, hh, h4]
  have := run_sliceS_gen (P := P) (A := A) hb
  rw [extract_str _ _ _ (by omega)] at this
  simp [Ex, execOp, hx, hy, hu, this]
theorem X_sliceS_l {s : ByteArray} [hA : UnE P A .string] (hx : ev N f x = .string s) (hy : ev N f y = .int k lo) (h0 : 0 ≤ lo) (h1 : lo ≤ s.size) :
    Ex P N f w ⟨some d, .slice A x (some y) none none, T, p, aft, none⟩ (.string (str (s.data.toList.drop lo.toNat))) w := by
  have hb : (Instr.sliceBounds false s.size s.size (some (.int k lo)) none none).run P w = .ok (lo.toNat, s.size, s.size) w := by
    simp [Instr.sliceBounds, Instr.sliceBound, asIntOf, h0, h1]
  have := run_sliceS_gen (P := P) (A := A) hb
  rw [extract_str _ _ _ (Nat.le_refl _), List.take_of_length_le (by rw [List.length_drop, Array.length_toList]; exact Nat.le_refl _)] at this
  simp [Ex, execOp, hx, hy, this]
theorem X_sliceS_h {s : ByteArray} [hA : UnE P A .string] (hx : ev N f x = .string s) (hu : ev N f u = .int k hi) (h0 : 0 ≤ hi) (h1 : hi ≤ s.size) :
    Ex P N f w ⟨some d, .slice A x none (some u) none, T, p, aft, none⟩ (.string (str (s.data.toList.take hi.toNat))) w := by
  have hb : (Instr.sliceBounds false s.size s.size none (some (.int k hi)) none).run P w = .ok (0, hi.toNat, s.size) w := by
    simp [Instr.sliceBounds, Instr.sliceBound, asIntOf, h0, h1]
  have := run_sliceS_gen (P := P) (A := A) hb
  rw [extract_str _ _ _ (by omega)] at this
  simp [Ex, execOp, hx, hu, this]
end
end Go.Proofs.YtkbldndbofbkcaaGreatDoor
/- The engine, part G: the rules under short names, as a walk uses them; regions that draw their order. -/
namespace Go.Proofs.YtkbldndbofbkcaaGreatDoor
open Go Go.RowKit
section
variable {X : Cx} {P : Program} {N : Nat} {Q : Exit → Fr → World → Prop} {f : Fr} {w w0 : World} {M : List Nat} {H : List Ent} {ops : Array Oper} {rest : List Oper}
variable {d : Nat} {T A B E : TypeId} {p : String} {aft : Array Edge} {x y c : Operand} {b off n m : Nat} {q : Bool} {l vl xs ys : List Value} {fr : Nat × Nat} {T' : TypeId} {v : Value} {size bytes : Nat} {k k' : IntKind} {i j lo hi : Int}
abbrev oo (d : Nat) (op : Op) (T : TypeId) (p : String) (aft : Array Edge) : Oper := ⟨some d, op, T, p, aft, none⟩
theorem mv (K : WL X P N ops Q rest (upd f d (ev N f x)) w) : WL X P N ops Q (⟨some d, .move x, T, p, aft, none⟩ :: rest) f w := WL_v (X_move rfl) K
theorem asg (K : WL X P N ops Q rest (upd f d (ev N f x)) w) : WL X P N ops Q (⟨some d, .assign x, T, p, aft, none⟩ :: rest) f w := WL_v (X_assign rfl) K
theorem mvp (v : Value) (hv : ev N f x = v) (K : WL X P N ops Q rest (upd f d v) w) : WL X P N ops Q (⟨some d, .move x, T, p, aft, none⟩ :: rest) f w := WL_v (X_move hv) K
theorem asp (v : Value) (hv : ev N f x = v) (K : WL X P N ops Q rest (upd f d v) w) : WL X P N ops Q (⟨some d, .assign x, T, p, aft, none⟩ :: rest) f w := WL_v (X_assign hv) K
theorem pkT {b : Bool} (hc : ev N f c = .bool true) (hv : ev N f x = .bool b) (K : WL X P N ops Q rest (upd f d (.bool b)) w) : WL X P N ops Q (⟨some d, .pick c x y, T, p, aft, none⟩ :: rest) f w := WL_v (X_pickT hc hv) K
theorem pkF {b : Bool} (hc : ev N f c = .bool false) (hv : ev N f y = .bool b) (K : WL X P N ops Q rest (upd f d (.bool b)) w) : WL X P N ops Q (⟨some d, .pick c x y, T, p, aft, none⟩ :: rest) f w := WL_v (X_pickF hc hv) K
theorem eqlW (hx : ev N f x = .int k i) (hy : ev N f y = .int k j) (K : WL X P N ops Q rest (upd f d (.bool (decide (i = j)))) w) : WL X P N ops Q (⟨some d, .binOp .eql A x y B, T, p, aft, none⟩ :: rest) f w := WL_v (X_eql hx hy) K
theorem neqW (hx : ev N f x = .int k i) (hy : ev N f y = .int k j) (K : WL X P N ops Q rest (upd f d (.bool (decide (i ≠ j)))) w) : WL X P N ops Q (⟨some d, .binOp .neq A x y B, T, p, aft, none⟩ :: rest) f w := WL_v (X_neq hx hy) K
theorem lssW (hx : ev N f x = .int k i) (hy : ev N f y = .int k j) (K : WL X P N ops Q rest (upd f d (.bool (decide (i < j)))) w) : WL X P N ops Q (⟨some d, .binOp .lss A x y B, T, p, aft, none⟩ :: rest) f w := WL_v (X_lss hx hy) K
theorem leqW (hx : ev N f x = .int k i) (hy : ev N f y = .int k j) (K : WL X P N ops Q rest (upd f d (.bool (decide (i ≤ j)))) w) : WL X P N ops Q (⟨some d, .binOp .leq A x y B, T, p, aft, none⟩ :: rest) f w := WL_v (X_leq hx hy) K
theorem gtrW (hx : ev N f x = .int k i) (hy : ev N f y = .int k j) (K : WL X P N ops Q rest (upd f d (.bool (decide (j < i)))) w) : WL X P N ops Q (⟨some d, .binOp .gtr A x y B, T, p, aft, none⟩ :: rest) f w := WL_v (X_gtr hx hy) K
theorem geqW (hx : ev N f x = .int k i) (hy : ev N f y = .int k j) (K : WL X P N ops Q rest (upd f d (.bool (decide (j ≤ i)))) w) : WL X P N ops Q (⟨some d, .binOp .geq A x y B, T, p, aft, none⟩ :: rest) f w := WL_v (X_geq hx hy) K
theorem addW (hx : ev N f x = .int k i) (hy : ev N f y = .int k j) (K : WL X P N ops Q rest (upd f d (.int k (k.wrap (i + j)))) w) : WL X P N ops Q (⟨some d, .binOp .add A x y B, T, p, aft, none⟩ :: rest) f w := WL_v (X_add hx hy) K
theorem addI (hx : ev N f x = .int .i64 i) (hy : ev N f y = .int .i64 j) (h : -9223372036854775808 ≤ i + j ∧ i + j ≤ 9223372036854775807) (K : WL X P N ops Q rest (upd f d (.int .i64 (i + j))) w) : WL X P N ops Q (⟨some d, .binOp .add A x y B, T, p, aft, none⟩ :: rest) f w := WL_v (X_addp hx hy h.1 h.2) K
theorem subW (hx : ev N f x = .int k i) (hy : ev N f y = .int k j) (K : WL X P N ops Q rest (upd f d (.int k (k.wrap (i - j)))) w) : WL X P N ops Q (⟨some d, .binOp .sub A x y B, T, p, aft, none⟩ :: rest) f w := WL_v (X_sub hx hy) K
theorem subI (hx : ev N f x = .int .i64 i) (hy : ev N f y = .int .i64 j) (h : -9223372036854775808 ≤ i - j ∧ i - j ≤ 9223372036854775807) (K : WL X P N ops Q rest (upd f d (.int .i64 (i - j))) w) : WL X P N ops Q (⟨some d, .binOp .sub A x y B, T, p, aft, none⟩ :: rest) f w := WL_v (X_subp hx hy h.1 h.2) K
theorem mulW (hx : ev N f x = .int k i) (hy : ev N f y = .int k j) (K : WL X P N ops Q rest (upd f d (.int k (k.wrap (i * j)))) w) : WL X P N ops Q (⟨some d, .binOp .mul A x y B, T, p, aft, none⟩ :: rest) f w := WL_v (X_mul hx hy) K
theorem mulI (hx : ev N f x = .int .i64 i) (hy : ev N f y = .int .i64 j) (h : -9223372036854775808 ≤ i * j ∧ i * j ≤ 9223372036854775807) (K : WL X P N ops Q rest (upd f d (.int .i64 (i * j))) w) : WL X P N ops Q (⟨some d, .binOp .mul A x y B, T, p, aft, none⟩ :: rest) f w := WL_v (X_mulp hx hy h.1 h.2) K
theorem quoW (hx : ev N f x = .int k i) (hy : ev N f y = .int k j) (hn : j ≠ 0) (K : WL X P N ops Q rest (upd f d (.int k (k.wrap (i.tdiv j)))) w) : WL X P N ops Q (⟨some d, .binOp .quo A x y B, T, p, aft, none⟩ :: rest) f w := WL_v (X_quo hx hy hn) K
theorem remW (hx : ev N f x = .int k i) (hy : ev N f y = .int k j) (hn : j ≠ 0) (K : WL X P N ops Q rest (upd f d (.int k (i.tmod j))) w) : WL X P N ops Q (⟨some d, .binOp .rem A x y B, T, p, aft, none⟩ :: rest) f w := WL_v (X_rem hx hy hn) K
theorem andW (hx : ev N f x = .int k i) (hy : ev N f y = .int k j) (K : WL X P N ops Q rest (upd f d (.int k (bitsV .and k i j))) w) : WL X P N ops Q (⟨some d, .binOp .and A x y B, T, p, aft, none⟩ :: rest) f w := WL_v (X_and hx hy) K
theorem orW (hx : ev N f x = .int k i) (hy : ev N f y = .int k j) (K : WL X P N ops Q rest (upd f d (.int k (bitsV .or k i j))) w) : WL X P N ops Q (⟨some d, .binOp .or A x y B, T, p, aft, none⟩ :: rest) f w := WL_v (X_or hx hy) K
theorem xorW (hx : ev N f x = .int k i) (hy : ev N f y = .int k j) (K : WL X P N ops Q rest (upd f d (.int k (bitsV .xor k i j))) w) : WL X P N ops Q (⟨some d, .binOp .xor A x y B, T, p, aft, none⟩ :: rest) f w := WL_v (X_xor hx hy) K
theorem shlW (hx : ev N f x = .int k i) (hy : ev N f y = .int k' j) (hn : 0 ≤ j) (K : WL X P N ops Q rest (upd f d (.int k (k.wrap (i * 2 ^ (min j.toNat k.bits))))) w) : WL X P N ops Q (⟨some d, .binOp .shl A x y B, T, p, aft, none⟩ :: rest) f w := WL_v (X_shl hx hy hn) K
theorem shrW (hx : ev N f x = .int k i) (hy : ev N f y = .int k' j) (hn : 0 ≤ j) (K : WL X P N ops Q rest (upd f d (.int k (i.fdiv (2 ^ (min j.toNat k.bits))))) w) : WL X P N ops Q (⟨some d, .binOp .shr A x y B, T, p, aft, none⟩ :: rest) f w := WL_v (X_shr hx hy hn) K
theorem notW {b : Bool} (hx : ev N f x = .bool b) (K : WL X P N ops Q rest (upd f d (.bool (!b))) w) : WL X P N ops Q (⟨some d, .unOp .not A x, T, p, aft, none⟩ :: rest) f w := WL_v (X_not hx) K
theorem negW (hx : ev N f x = .int k i) (K : WL X P N ops Q rest (upd f d (.int k (k.wrap (0 - i)))) w) : WL X P N ops Q (⟨some d, .unOp .neg A x, T, p, aft, none⟩ :: rest) f w := WL_v (X_neg hx) K
theorem cviW [hA : UnE P A (.int k')] [hB : UnE P B (.int k)] (hx : ev N f x = .int k' i) (K : WL X P N ops Q rest (upd f d (.int k (k.wrap i))) w) : WL X P N ops Q (⟨some d, .convert A B x, T, p, aft, none⟩ :: rest) f w := WL_v (X_cvint hx) K
theorem cviI [hA : UnE P A (.int k')] [hB : UnE P B (.int .i64)] (hx : ev N f x = .int k' i) (h : -9223372036854775808 ≤ i ∧ i ≤ 9223372036854775807) (K : WL X P N ops Q rest (upd f d (.int .i64 i)) w) : WL X P N ops Q (⟨some d, .convert A B x, T, p, aft, none⟩ :: rest) f w := WL_v (X_cvintp hx h.1 h.2) K
theorem cvsW {s : ByteArray} [hA : UnE P A .string] [hB : UnE P B .string] (hx : ev N f x = .string s) (K : WL X P N ops Q rest (upd f d (.string s)) w) : WL X P N ops Q (⟨some d, .convert A B x, T, p, aft, none⟩ :: rest) f w := WL_v (X_cvstr hx) K
theorem nckW {a : Addr} (hx : ev N f x = .pointer (some a)) (K : WL X P N ops Q rest (upd f d (.pointer (some a))) w) : WL X P N ops Q (⟨some d, .nilCheck x, T, p, aft, none⟩ :: rest) f w := WL_v (X_nilCheckP hx) K
theorem nckF {g : FuncId} {u v : Array Value} (hx : ev N f x = .func (.func g) u v) (K : WL X P N ops Q rest (upd f d (.func (.func g) u v)) w) : WL X P N ops Q (⟨some d, .nilCheck x, T, p, aft, none⟩ :: rest) f w := WL_v (X_nilCheckF hx) K
theorem eqnP {q : Option Addr} {E : TypeId} [hA : UnE P A (.pointer E)] (hx : ev N f x = .pointer q) (hy : ev N f y = .pointer none) (K : WL X P N ops Q rest (upd f d (.bool q.isNone)) w) : WL X P N ops Q (⟨some d, .binOp .eql A x y B, T, p, aft, none⟩ :: rest) f w := WL_v (X_eqNilP hx hy) K
theorem nenP {q : Option Addr} {E : TypeId} [hA : UnE P A (.pointer E)] (hx : ev N f x = .pointer q) (hy : ev N f y = .pointer none) (K : WL X P N ops Q rest (upd f d (.bool q.isSome)) w) : WL X P N ops Q (⟨some d, .binOp .neq A x y B, T, p, aft, none⟩ :: rest) f w := WL_v (X_neNilP hx hy) K
theorem eqnS {q : Option Addr} {l e l' e' : Nat} {E : TypeId} [hA : UnE P A (.slice E)] (hx : ev N f x = .slice q l e) (hy : ev N f y = .slice none l' e') (K : WL X P N ops Q rest (upd f d (.bool q.isNone)) w) : WL X P N ops Q (⟨some d, .binOp .eql A x y B, T, p, aft, none⟩ :: rest) f w := WL_v (X_eqNilS hx hy) K
theorem nenS {q : Option Addr} {l e l' e' : Nat} {E : TypeId} [hA : UnE P A (.slice E)] (hx : ev N f x = .slice q l e) (hy : ev N f y = .slice none l' e') (K : WL X P N ops Q rest (upd f d (.bool q.isSome)) w) : WL X P N ops Q (⟨some d, .binOp .neq A x y B, T, p, aft, none⟩ :: rest) f w := WL_v (X_neNilS hx hy) K
theorem ext {vs : List Value} {i : Nat} (hx : ev N f x = .tuple vs.toArray) (hv : vs[i]? = some v) (K : WL X P N ops Q rest (upd f d v) w) : WL X P N ops Q (⟨some d, .extract x i, T, p, aft, none⟩ :: rest) f w := WL_v (X_extract hx hv) K
theorem mkf {fn : Fn} {u v : List Operand} (K : WL X P N ops Q rest (upd f d (.func fn (u.map (ev N f)).toArray (v.map (ev N f)).toArray)) w) : WL X P N ops Q (⟨some d, .makeFunc fn u.toArray v.toArray, T, p, aft, none⟩ :: rest) f w := WL_v (by have := X_mkFunc (P := P) (N := N) (f := f) (w := w) (d := d) (T := T) (p := p) (aft := aft) (fn := fn) (u := u.toArray) (v := v.toArray); simpa using this) K
theorem lenW {a : Option Addr} {l c : Nat} {E : TypeId} [hA : UnE P A (.slice E)] (hx : ev N f x = .slice a l c) (K : WL X P N ops Q rest (upd f d (.int .i64 l)) w) : WL X P N ops Q (⟨some d, .call ⟨.builtin .len, #[x], #[A]⟩, T, p, aft, none⟩ :: rest) f w := WL_v (X_len hx) K
theorem lenS {s : ByteArray} [hA : UnE P A .string] (hx : ev N f x = .string s) (K : WL X P N ops Q rest (upd f d (.int .i64 s.size)) w) : WL X P N ops Q (⟨some d, .call ⟨.builtin .len, #[x], #[A]⟩, T, p, aft, none⟩ :: rest) f w := WL_v (X_lenS hx) K
theorem capW {a : Option Addr} {l c : Nat} {E : TypeId} [hA : UnE P A (.slice E)] (hx : ev N f x = .slice a l c) (K : WL X P N ops Q rest (upd f d (.int .i64 c)) w) : WL X P N ops Q (⟨some d, .call ⟨.builtin .cap, #[x], #[A]⟩, T, p, aft, none⟩ :: rest) f w := WL_v (X_cap hx) K
theorem minW {Ts : Array TypeId} (hx : ev N f x = .int k i) (hy : ev N f y = .int k' j) (K : WL X P N ops Q rest (upd f d (.int k (if j < i then j else i))) w) : WL X P N ops Q (⟨some d, .call ⟨.builtin .min, #[x, y], Ts⟩, T, p, aft, none⟩ :: rest) f w := WL_v (X_min hx hy) K
theorem maxW {Ts : Array TypeId} (hx : ev N f x = .int k i) (hy : ev N f y = .int k' j) (K : WL X P N ops Q rest (upd f d (.int k (if j > i then j else i))) w) : WL X P N ops Q (⟨some d, .call ⟨.builtin .max, #[x, y], Ts⟩, T, p, aft, none⟩ :: rest) f w := WL_v (X_max hx hy) K
/-- A load from a piece that is known. -/
theorem ld (hs : St w0 M w H) [hA : AgE P A false] [hm : InB b H q (.cells l.toArray T' fr)] (hx : ev N f x = .pointer (some ⟨b, off, none⟩)) (hv : l[off]? = some v) (K : WL X P N ops Q rest (upd f d v) w) : WL X P N ops Q (⟨some d, .load A x, T, p, aft, none⟩ :: rest) f w := WL_v (X_load hs hx hm.h hv) K
theorem ldA (hs : St w0 M w H) [hA : AgE P A true] [hn : SzE P A n] (hx : ev N f x = .pointer (some ⟨b, off, none⟩)) [hm : InB b H q (.cells l.toArray T' fr)] (hl : off + n ≤ l.length) (K : WL X P N ops Q rest (upd f d (.agg (subl l off n).toArray)) w) : WL X P N ops Q (⟨some d, .load A x, T, p, aft, none⟩ :: rest) f w := WL_v (X_loadA hs hx hm.h hl rfl) K
theorem ldc {a : Addr} [hA : AgE P A false] (hx : ev N f x = .pointer (some a)) (hc : w.cell? a = some v) (K : WL X P N ops Q rest (upd f d v) w) : WL X P N ops Q (⟨some d, .load A x, T, p, aft, none⟩ :: rest) f w := WL_v (X_loadc hx hc) K
theorem fad [h : FdE P A m n] (hx : ev N f x = .pointer (some ⟨b, off, none⟩)) (K : WL X P N ops Q rest (upd f d (.pointer (some ⟨b, off + n, none⟩))) w) : WL X P N ops Q (⟨some d, .fieldAddr A x m, T, p, aft, none⟩ :: rest) f w := WL_v (X_fieldAddr hx rfl) K
theorem iad {len cap size : Nat} [hA : UnE P A (.slice E)] [hn : SzE P E size] (hx : ev N f x = .slice (some ⟨b, off, none⟩) len cap) (hy : ev N f y = .int k i) (h0 : 0 ≤ i ∧ i < len) (K : WL X P N ops Q rest (upd f d (.pointer (some ⟨b, off + i.toNat * size, none⟩))) w) :
    WL X P N ops Q (⟨some d, .indexAddr A x y, T, p, aft, none⟩ :: rest) f w := WL_v (X_indexAddr hx hy h0.1 h0.2 rfl) K
theorem ixS {s : ByteArray} [hA : UnE P A .string] (hx : ev N f x = .string s) (hy : ev N f y = .int k i) (h0 : 0 ≤ i ∧ i < s.size) (K : WL X P N ops Q rest (upd f d (.int .u8 (bt s i))) w) : WL X P N ops Q (⟨some d, .index A x y, T, p, aft, none⟩ :: rest) f w := WL_v (X_indexS hx hy h0.1 h0.2) K
theorem alc (hs : St w0 M w H) [hz : ZlE P A vl] (K : ∀ w' g, St w0 M w' (eB g true (Blk A vl) :: H) → w.heap.size ≤ g → Fm [] w w' → WL X P N ops Q rest (upd f d (.pointer (some ⟨g, 0, none⟩))) w') : WL X P N ops Q (⟨some d, .alloc A, T, p, aft, none⟩ :: rest) f w := W_alloc hs K
theorem bx (v : Value) (hs : St w0 M w H) (hx : ev N f x = v) (hv : v.cells = vl.toArray) (K : ∀ w' g, St w0 M w' (eB g true (Blk A vl) :: H) → w.heap.size ≤ g → Fm [] w w' → WL X P N ops Q rest (upd f d (.pointer (some ⟨g, 0, none⟩))) w') : WL X P N ops Q (⟨some d, .box A x, T, p, aft, none⟩ :: rest) f w := W_box hs hx hv K
theorem sto (v : Value) (hs : St w0 M w H) [hn : SzE P A n] (hx : ev N f x = .pointer (some ⟨b, off, none⟩)) {F : Obj → List Ent} [hr : RpB b H (.cells l.toArray T' (0, 0)) F] (hy : ev N f y = v) (hv : v.cells = vl.toArray)
    (hl : vl.length = n) (hlt : off + n ≤ l.length) (h1 : vl.all (·.oneCell') = true) (K : ∀ w', St w0 M w' (F (Blk T' (spl l off vl))) → Fm [b] w w' → WL X P N ops Q rest f w') : WL X P N ops Q (⟨none, .store A x y, T, p, aft, none⟩ :: rest) f w :=
  W_store hs hx hy hv (hr.h _) rfl hl hlt h1 K
theorem bld {pl : List (Nat × Nat)} {z : List Value} [hp : PlE P A pl z] {parts : List (Nat × Operand)} (hl : fillL (fun i => pl[i]?) z (parts.map (fun ix => (ix.1, ev N f ix.2))) = some vl) (K : WL X P N ops Q rest (upd f d (.agg vl.toArray)) w) :
    WL X P N ops Q (⟨some d, .build A parts.toArray, T, p, aft, none⟩ :: rest) f w := WL_v (X_build rfl hl) K
theorem eqS {s t : ByteArray} (hx : ev N f x = .string s) (hy : ev N f y = .string t) (K : WL X P N ops Q rest (upd f d (.bool (decide (s.data.toList = t.data.toList)))) w) : WL X P N ops Q (⟨some d, .binOp .eql A x y B, T, p, aft, none⟩ :: rest) f w := WL_v (X_eqS hx hy) K
theorem neS {s t : ByteArray} (hx : ev N f x = .string s) (hy : ev N f y = .string t) (K : WL X P N ops Q rest (upd f d (.bool (decide (s.data.toList ≠ t.data.toList)))) w) : WL X P N ops Q (⟨some d, .binOp .neq A x y B, T, p, aft, none⟩ :: rest) f w := WL_v (X_neS hx hy) K
theorem slLH {u : Operand} {len cap : Nat} [hA : UnE P A (.slice E)] [hn : SzE P E n] (hx : ev N f x = .slice (some ⟨b, off, none⟩) len cap) (hy : ev N f y = .int k lo) (hu : ev N f u = .int k' hi) (h : 0 ≤ lo ∧ lo ≤ hi ∧ hi ≤ cap) (K : WL X P N ops Q rest (upd f d (.slice (some ⟨b, sla off lo.toNat cap n, none⟩) (hi.toNat - lo.toNat) (cap - lo.toNat))) w) :
    WL X P N ops Q (⟨some d, .slice A x (some y) (some u) none, T, p, aft, none⟩ :: rest) f w := WL_v (X_slice_lh hx hy hu h.1 h.2.1 h.2.2) K
theorem slL {len cap : Nat} [hA : UnE P A (.slice E)] [hn : SzE P E n] (hx : ev N f x = .slice (some ⟨b, off, none⟩) len cap) (hy : ev N f y = .int k lo) (h : 0 ≤ lo ∧ lo ≤ len) (K : WL X P N ops Q rest (upd f d (.slice (some ⟨b, sla off lo.toNat cap n, none⟩) (len - lo.toNat) (cap - lo.toNat))) w) :
    WL X P N ops Q (⟨some d, .slice A x (some y) none none, T, p, aft, none⟩ :: rest) f w := WL_v (X_slice_l hx hy h.1 h.2) K
theorem slH {u : Operand} {len cap : Nat} [hA : UnE P A (.slice E)] [hn : SzE P E n] (hx : ev N f x = .slice (some ⟨b, off, none⟩) len cap) (hu : ev N f u = .int k hi) (h : 0 ≤ hi ∧ hi ≤ cap) (K : WL X P N ops Q rest (upd f d (.slice (some ⟨b, off, none⟩) hi.toNat cap)) w) :
    WL X P N ops Q (⟨some d, .slice A x none (some u) none, T, p, aft, none⟩ :: rest) f w := WL_v (X_slice_h hx hu h.1 h.2) K
theorem ssLH {u : Operand} {s : ByteArray} [hA : UnE P A .string] (hx : ev N f x = .string s) (hy : ev N f y = .int k lo) (hu : ev N f u = .int k' hi) (h : 0 ≤ lo ∧ lo ≤ hi ∧ hi ≤ s.size) (K : WL X P N ops Q rest (upd f d (.string (str ((s.data.toList.drop lo.toNat).take (hi.toNat - lo.toNat))))) w) :
    WL X P N ops Q (⟨some d, .slice A x (some y) (some u) none, T, p, aft, none⟩ :: rest) f w := WL_v (X_sliceS_lh hx hy hu h.1 h.2.1 h.2.2) K
theorem ssL {s : ByteArray} [hA : UnE P A .string] (hx : ev N f x = .string s) (hy : ev N f y = .int k lo) (h : 0 ≤ lo ∧ lo ≤ s.size) (K : WL X P N ops Q rest (upd f d (.string (str (s.data.toList.drop lo.toNat)))) w) :
    WL X P N ops Q (⟨some d, .slice A x (some y) none none, T, p, aft, none⟩ :: rest) f w := WL_v (X_sliceS_l hx hy h.1 h.2) K
theorem ssH {u : Operand} {s : ByteArray} [hA : UnE P A .string] (hx : ev N f x = .string s) (hu : ev N f u = .int k hi) (h : 0 ≤ hi ∧ hi ≤ s.size) (K : WL X P N ops Q rest (upd f d (.string (str (s.data.toList.take hi.toNat)))) w) :
    WL X P N ops Q (⟨some d, .slice A x none (some u) none, T, p, aft, none⟩ :: rest) f w := WL_v (X_sliceS_h hx hu h.1 h.2) K
theorem cll {fn : FuncId} [hc : CallE P fn] {xs : List Operand} {Ts : Array TypeId} {R : Value → World → Prop} (h : Ret P fn (xs.map (ev N f)).toArray w R) (K : ∀ v w', R v w' → WL X P N ops Q rest (upd f d v) w') :
    WL X P N ops Q (⟨some d, .call ⟨.value (.func fn), xs.toArray, Ts⟩, T, p, aft, none⟩ :: rest) f w := W_call (by simp) h K
/-- The same, its argument list as the contract has it. -/
theorem clq {fn : FuncId} [hc : CallE P fn] {xs : List Operand} {Ts : Array TypeId} {R : Value → World → Prop} (vs : List Value) (hv : xs.map (ev N f) = vs) (h : Ret P fn vs.toArray w R) (K : ∀ v w', R v w' → WL X P N ops Q rest (upd f d v) w') :
    WL X P N ops Q (⟨some d, .call ⟨.value (.func fn), xs.toArray, Ts⟩, T, p, aft, none⟩ :: rest) f w := W_call (by subst hv; simp) h K
end
end Go.Proofs.YtkbldndbofbkcaaGreatDoor
/- The engine, part H: guards that are known, results out of memory, pieces dropped, one element appended. -/
namespace Go.Proofs.YtkbldndbofbkcaaGreatDoor
open Go Go.RowKit
theorem St.weak {w0 w : World} {M : List Nat} {H H' : List Ent} (h : St w0 M w H) (hs : H'.Sublist H) : St w0 M w H' :=
  ⟨h.fm, fun x hx => h.has x (hs.subset hx), fun x hx => h.own x (hs.subset hx), h.sep.sublist hs⟩
section
variable {X : Cx} {P : Program} {N : Nat} {Q : Exit → Fr → World → Prop} {f : Fr} {w w0 : World} {M : List Nat} {H : List Ent} {ops : Array Oper} {rest : List Oper}
variable {d : Nat} {T A B E : TypeId} {p : String} {aft : Array Edge} {x y c : Operand} {b off n m : Nat} {q : Bool} {l vl xs ys : List Value} {fr : Nat × Nat} {T' : TypeId} {v : Value} {size bytes : Nat} {op : Op}
theorem WL_gy {lo : List Oper} {dst : Option Nat} {j : Nat} {want : Bool} {g : Nat} (hg : (lo[j]?).bind (·.dst) = some g) (hN : g < N) (hb : ev N f (.tmp g) = .bool want)
    (hy : WL X P N lo.toArray Q (⟨dst, op, T, p, aft, none⟩ :: rest) f w) : WL X P N lo.toArray Q (⟨dst, op, T, p, aft, some (j, want)⟩ :: rest) f w :=
  WL_g hg hN hb (fun _ => by
    have e : upd f g (.bool want) = f := upd_self (by rw [ev_tmp, if_pos hN] at hb; exact hb)
    rw [e]; exact hy) (fun h => by cases want <;> cases h)
theorem WL_gn {lo : List Oper} {d : Nat} {j : Nat} {want : Bool} {g : Nat} (hg : (lo[j]?).bind (·.dst) = some g) (hN : g < N) (hb : ev N f (.tmp g) = .bool (!want))
    (hn : WL X P N lo.toArray Q rest (upd f d undef) w) : WL X P N lo.toArray Q (⟨some d, op, T, p, aft, some (j, want)⟩ :: rest) f w :=
  WL_g hg hN hb (fun h => by cases want <;> cases h) (fun _ => by
    have e : upd f g (.bool (!want)) = f := upd_self (by rw [ev_tmp, if_pos hN] at hb; exact hb)
    simp only [e]; exact hn)
theorem WL_gyb {lo : List Oper} {dst : Option Nat} {j : Nat} {want b : Bool} {g : Nat} (hg : (lo[j]?).bind (·.dst) = some g) (hN : g < N) (hb : ev N f (.tmp g) = .bool b) (hbw : b = want)
    (hy : WL X P N lo.toArray Q (⟨dst, op, T, p, aft, none⟩ :: rest) (upd f g (.bool want)) w) : WL X P N lo.toArray Q (⟨dst, op, T, p, aft, some (j, want)⟩ :: rest) f w :=
  WL_g hg hN hb (fun _ => hy) (fun h => by subst hbw; cases b <;> cases h)
theorem WL_gnb {lo : List Oper} {d : Nat} {j : Nat} {want b : Bool} {g : Nat} (hg : (lo[j]?).bind (·.dst) = some g) (hN : g < N) (hb : ev N f (.tmp g) = .bool b) (hbw : b = !want)
    (hn : WL X P N lo.toArray Q rest (upd (upd f g (.bool (!want))) d undef) w) : WL X P N lo.toArray Q (⟨some d, op, T, p, aft, some (j, want)⟩ :: rest) f w :=
  WL_g hg hN hb (fun h => by rw [hbw] at h; cases want <;> cases h) (fun _ => hn)
theorem lvA (hs : St w0 M w H) [hA : AgE P A true] [hn : SzE P A n] [hm : InB b H q (.cells l.toArray T' fr)] (hl : off + n ≤ l.length) : (loadVar A ⟨b, off, none⟩).run P w = .ok (.agg (subl l off n).toArray) w := by
  have := run_loadCells_sub (P := P) (hs.get hm.h) hl
  simp [loadVar, hA.h, hn.h, this]
theorem lv1 (hs : St w0 M w H) [hA : AgE P A false] [hm : InB b H q (.cells l.toArray T' fr)] (hv : l[off]? = some v) : (loadVar A ⟨b, off, none⟩).run P w = .ok v w := by
  have hc : w.cell? ⟨b, off, none⟩ = some v := by rw [cell_of_blk (hs.get hm.h)]; exact hv
  simp [loadVar, hA.h, load, Sem.run, hc]
theorem rdB (hs : St w0 M w H) [hm : InB b H q (.cells l.toArray T' fr)] (hl : off + m * size ≤ l.length) (hy : subl l off (m * size) = ys) : Rd w (some ⟨b, off, none⟩) m size ys := by
  subst hy
  refine ⟨by rw [subl_eq]; simp; omega, fun _ => ⟨b, off, rfl, fun j u hj => ?_⟩⟩
  rw [cell_of_blk (hs.get hm.h)]
  rw [subl_eq, List.getElem?_take] at hj
  split at hj
  · rw [List.getElem?_drop] at hj; exact hj
  · cases hj
theorem subl_all (l : List Value) : subl l 0 l.length = l := by rw [subl_eq]; simp
/-- append of what was written out: append(s, a, b). -/
theorem app1 (hs : St w0 M w H) [hA : UnE P A (.slice E)] [he : ElE P E vl size bytes] {a : Option Addr} {cap c : Nat} {F : Ent → List Ent} (hx : ev N f x = .slice a n cap) [hrp : RpR a n cap H E size xs F] (hy : ev N f y = .slice (some ⟨b, 0, none⟩) m c) [hm : InB b H q (.cells l.toArray T' fr)]
    (hl : l.length = m * size) (h1 : l.all (·.oneCell') = true) (hsz : 0 < size) (hzl : vl.length = size) (hb : (n + m) * bytes ≤ 140737488355328) (h63 : n + m ≤ 9223372036854775807)
    (K : ∀ a2 c2 w', St w0 M w' (F (eR (.slice a2 (n + m) c2) E size (n + m) (xs ++ l))) → (a2 = none → a = none) → WL X P N ops Q rest (upd f d (.slice a2 (n + m) c2)) w') :
    WL X P N ops Q (⟨some d, .call ⟨.builtin .append, #[x, y], #[A, A]⟩, T, p, aft, none⟩ :: rest) f w :=
  W_append hs hx hy (rdB hs (by omega) (by rw [← hl]; exact subl_all l)) (fun _ h => by cases h) (by simpa using h1) hsz hzl hb h63 K
/-- A call of a function value. -/
theorem clv {fn : FuncId} [hc : CallE P fn] {zs : List Operand} {Ts : Array TypeId} {first cap : List Value} {R : Value → World → Prop} (hx : ev N f x = .func (.func fn) first.toArray cap.toArray) (h : Ret P fn (first ++ zs.map (ev N f) ++ cap).toArray w R) (K : ∀ v w', R v w' → WL X P N ops Q rest (upd f d v) w') :
    WL X P N ops Q (⟨some d, .call ⟨.value x, zs.toArray, Ts⟩, T, p, aft, none⟩ :: rest) f w := W_callv hx rfl (by simpa using h) K
end
/-- The beginning of a walk over blocks that are known. -/
theorem St.one {w : World} {M : List Nat} {b : Nat} {q : Bool} {o : Obj} (hb : w.heap[b]? = some o) (hq : q = true → b ∈ M) : St w M w [eB b q o] :=
  (St.init w M).put (e := eB b q o) hb (by simp) (fun h x hx => by simp [eB] at hx; subst hx; exact .inr (hq h))
theorem St.two {w : World} {M : List Nat} {b c : Nat} {q r : Bool} {o o' : Obj} (hb : w.heap[b]? = some o) (hc : w.heap[c]? = some o') (hne : b ≠ c) (hq : q = true → b ∈ M) (hr : r = true → c ∈ M) : St w M w [eB b q o, eB c r o'] :=
  (St.one hc hr).put (e := eB b q o) hb (fun x hx y hy => by simp at hx; subst hx; simp [eB] at hy ⊢; subst hy; exact hne) (fun h x hx => by simp [eB] at hx; subst hx; exact .inr (hq h))
/-- A row known whole, as a slice that grows. -/
theorem own_of_blk {w : World} {g n cap E size : Nat} {l : List Value} (hb : w.heap[g]? = some (Blk E l)) (hl : l.length = cap * size) (hn : n ≤ cap) (hc : cap ≤ 9223372036854775807) : w.ownsRow 0 E size (.slice (some ⟨g, 0, none⟩) n cap) n (l.take (n * size)) := by
  have hm : n * size ≤ cap * size := Nat.mul_le_mul_right _ hn
  exact ⟨by simp; omega, .inr ⟨g, cap, l.toArray, rfl, Nat.zero_le _, hb, hn, by unfold maxLen; omega, by simpa using hl, by simp⟩⟩
theorem St.toR {w0 w : World} {M : List Nat} {H : List Ent} (h : St w0 M w H) {g n cap E size : Nat} {l : List Value} {H' : List Ent} (hr : Rep (eB g true (Blk E l)) (eR (.slice (some ⟨g, 0, none⟩) n cap) E size n (l.take (n * size))) H H') (hl : l.length = cap * size) (hn : n ≤ cap) (hc : cap ≤ 9223372036854775807) : St w0 M w H' :=
  h.rep hr rfl (Fm.refl _ _) (own_of_blk (h.get hr.mem) hl hn hc) (fun b hb => .inl (by simpa [eR, eB, Value.ownBlock] using hb))
theorem St.geB {w0 w : World} {H : List Ent} (h : St w0 [] w H) {b : Nat} {o : Obj} [hm : InB b H true o] : w0.heap.size ≤ b := by
  rcases h.own _ hm.h rfl b (by simp [eB]) with h1 | h1
  · exact h1
  · cases h1
theorem St.ne {w0 w : World} {M : List Nat} {H : List Ent} {x y : Ent} (h : St w0 M w (x :: y :: H)) {b c : Nat} (hb : b ∈ x.fp) (hc : c ∈ y.fp) : b ≠ c := fun hq => by
  have := (List.pairwise_cons.1 h.sep).1 y (.head _) b hb; rw [hq] at this; exact this hc
/-- Behind a call that turned blocks of one piece. -/
theorem St.turn {w0 w w' : World} {M M' : List Nat} {H H' : List Ent} {e e' : Ent} (h : St w0 M w H) (hr : Rep e e' H H') (ho : e.own = true) (hf : Fm M' w w') (hM : ∀ b ∈ M', b ∈ e.fp) (he : e'.holds w') (hfp : e'.fp = e.fp) : St w0 M w' H' :=
  h.rep hr ho (hf.mono hM) he (fun b hb => .inl (hfp ▸ hb))
end Go.Proofs.YtkbldndbofbkcaaGreatDoor
/- The engine, part I: regions that draw their order. One order is walked; the operations that only read are shown to yield the same wherever they come. -/
namespace Go.Proofs.YtkbldndbofbkcaaGreatDoor
open Go Go.RowKit
section
variable {X : Cx} {P : Program} {ops : Array Oper} {Q : Exit → Act → World → Prop}
/-- Whatever order is picked from here on; behind each operation C holds, unless the operation 'last' has been carried out. -/
def DA (P : Program) (ops : Array Oper) (Q : Exit → Act → World → Prop) (last : Nat) (C : World → Prop) : Nat → Array Bool → Act → World → Prop
  | 0, L, a, w => Region.ready .any ops L = [] ∧ Q .normal a w
  | n + 1, L, a, w => (Region.ready .any ops L = [] → Q .normal a w) ∧
      ∀ i ∈ Region.ready .any ops L, wpOp P ops Q i (fun a' w' => ((L.setIfInBounds i true).getD last false = true ∨ C w') ∧ DA P ops Q last C n (L.setIfInBounds i true) a' w') a w
theorem DA_any {last : Nat} {C : World → Prop} : ∀ (n : Nat) (L : Array Bool) (a : Act) (w : World), DA P ops Q last C n L a w → wpAny P .any ops Q n L a w
  | 0, _, _, _, h => h
  | n + 1, _, _, _, h => ⟨h.1, fun i hi => wpOp_mono (fun a' w' h' => DA_any n _ a' w' h'.2) (h.2 i hi)⟩
/-- What an operation that is done waited for is done. -/
def Cl (ops : Array Oper) (L : Array Bool) : Prop := ∀ j oj, ops[j]? = some oj → L.getD j false = true → ∀ e ∈ oj.after, Region.binds .any e = true → L.getD e.on false = true
theorem Cl.step {L : Array Bool} {j : Nat} (h : Cl ops L) (hj : j ∈ Region.ready .any ops L) : Cl ops (L.setIfInBounds j true) := by
  intro k ok hk hL e he hb
  obtain ⟨_, oj, hoj, hall⟩ := mem_ready.1 hj
  by_cases hkj : k = j
  · subst hkj
    rw [hk] at hoj; injection hoj with hoj; subst hoj
    exact getD_set_true (hall e he hb)
  · rw [getD_set_ne false (Ne.symm hkj)] at hL
    exact getD_set_true (h k ok hk hL e he hb)
/-- Operation n waits for i, at first hand or through others. -/
def pathB (ops : Array Oper) : Nat → Nat → Nat → Bool
  | 0, _, _ => false
  | k + 1, n, i => match ops[n]? with
    | none => false
    | some o => o.after.any fun e => Region.binds .any e && (e.on == i || pathB ops k e.on i)
theorem pathB_listed {L : Array Bool} (hc : Cl ops L) {i : Nat} : ∀ (k n : Nat), pathB ops k n i = true → (∀ o, ops[n]? = some o → ∀ e ∈ o.after, Region.binds .any e = true → L.getD e.on false = true) → L.getD i false = true
  | 0, _, h, _ => by simp [pathB] at h
  | k + 1, n, h, hall => by
    unfold pathB at h
    cases ho : ops[n]? with
    | none => simp [ho] at h
    | some o =>
      simp only [ho] at h
      obtain ⟨e, he, hb⟩ := Array.any_eq_true'.1 h
      simp only [Bool.and_eq_true, Bool.or_eq_true, beq_iff_eq] at hb
      have hl := hall o ho e he hb.1
      rcases hb.2 with h2 | h2
      · rw [← h2]; exact hl
      · exact pathB_listed hc k e.on h2 (fun o' ho' => hc e.on o' ho' hl)
theorem DA_first {last i : Nat} {oi : Oper} {v : Value} {C : World → Prop} (hi : ops[i]? = some oi) (hsel : ∀ (j : Nat) (o : Oper) cs b, ops[j]? = some o → o.op ≠ .select cs b)
    (hQ : ∀ c a w, Q (.panic c) (a.put oi.dst v) w → Q (.panic c) a w) (hil : i ≠ last) (hlast : ∀ L, L.size = ops.size → Cl ops L → (last ∈ Region.ready .any ops L ∨ L.getD last false = true) → L.getD i false = true) :
    ∀ (n : Nat) (L : Array Bool) (a : Act) (w : World), L.size = ops.size → Cl ops L →
      (∀ j oj, ops[j]? = some oj → j ≠ i → L.getD j true = false → (∀ e ∈ oj.after, Region.binds .any e = true → e.on ≠ i) → oi.apart ops oj = true) →
      i ∈ Region.ready .any ops L → YieldsIf P ops C oi v a → C w → DA P ops Q last C n (L.setIfInBounds i true) (a.put oi.dst v) w → DA P ops Q last C (n + 1) L a w := by
  intro n
  induction n with
  | zero =>
    intro L a w _ _ _ hr hy hC H
    refine ⟨fun h => (by rw [h] at hr; cases hr), fun j hj => ?_⟩
    by_cases hji : j = i
    · subst hji; exact hy.wpOp hi hC ⟨.inr hC, H⟩
    · have := ready_mono hj hji
      rw [H.1] at this; cases this
  | succ n ih =>
    intro L a w hsz hcl hfree hr hy hC H
    refine ⟨fun h => (by rw [h] at hr; cases hr), fun j hj => ?_⟩
    by_cases hji : j = i
    · subst hji; exact hy.wpOp hi hC ⟨.inr hC, H⟩
    · have hiun : ¬ L.getD i false = true := fun hq => by
        have h0 := (mem_ready.1 hr).1
        rcases Nat.lt_or_ge i L.size with h' | h'
        · simp [h'] at h0 hq; rw [h0] at hq; cases hq
        · simp [Array.getElem?_eq_none h'] at hq
      have h1 := H.2 j (ready_mono hj hji)
      obtain ⟨hjun, oj, hoj, hall⟩ := mem_ready.1 hj
      have hnot : ∀ e ∈ oj.after, Region.binds .any e = true → e.on ≠ i := fun e he hb heq => by
        have := hall e he hb; rw [heq] at this; exact hiun this
      have hjl : j ≠ last := fun hq => hiun (hlast L hsz hcl (.inl (hq ▸ hj)))
      have h2 := wpOp_putIf hoj (hfree j oj hoj hji hjun hnot) (fun cs b => hsel i oi cs b hi) (fun cs b => hsel j oj cs b hoj) hQ hy h1
      have hfree' : ∀ k ok, ops[k]? = some ok → k ≠ i → (L.setIfInBounds j true).getD k true = false → (∀ e ∈ ok.after, Region.binds .any e = true → e.on ≠ i) → oi.apart ops ok = true := fun k ok hk hki hun hno => by
        refine hfree k ok hk hki ?_ hno
        by_cases hjk : j = k
        · subst hjk; exact hjun
        · rw [getD_set_ne true hjk] at hun; exact hun
      refine wpOp_mono (fun a' w' h3 => ?_) h2
      have hC' : C w' := by
        rcases h3.2.1 with h4 | h4
        · rw [getD_set_ne false hjl, getD_set_ne false hil] at h4
          exact absurd (hlast L hsz hcl (.inr h4)) hiun
        · exact h4
      refine ⟨.inr hC', ih (L.setIfInBounds j true) a' w' (by simpa using hsz) (hcl.step hj) hfree' (ready_mono hr (Ne.symm hji)) h3.1 hC' ?_⟩
      rw [Array.setIfInBounds_comm _ _ hji]
      exact h3.2.2
end
/-- The listed ones. -/
def Lm (n : Nat) : List Nat → Array Bool
  | [] => Array.replicate n false
  | i :: done => (Lm n done).setIfInBounds i true
theorem Lm_size (n : Nat) (l : List Nat) : (Lm n l).size = n := by
  induction l with
  | nil => simp [Lm]
  | cons a l ih => simp [Lm, ih]
def clB (ops : Array Oper) (L : Array Bool) : Bool :=
  (List.range ops.size).all fun j => !L.getD j false || match ops[j]? with | none => true | some o => o.after.all fun e => !Region.binds .any e || L.getD e.on false
theorem clB_spec {ops : Array Oper} {L : Array Bool} (h : clB ops L = true) : Cl ops L := by
  intro j oj hj hL e he hb
  have h1 := List.all_eq_true.1 h j (List.mem_range.2 (Array.getElem?_eq_some_iff.1 hj).1)
  simp only [hL, hj, Bool.not_true, Bool.false_or] at h1
  have h2 := Array.all_eq_true_iff_forall_mem.1 h1 e he
  simpa [hb] using h2
/-- May i be taken first, the listed ones being done? -/
def dq (ops : Array Oper) (done : List Nat) (last i : Nat) : Bool :=
  Region.noSelect ops && Region.free .any ops (Lm ops.size done) i && (Region.ready .any ops (Lm ops.size done)).contains i && clB ops (Lm ops.size done) && i != last &&
    (decide (ops.size ≤ last) || pathB ops ops.size last i)
class MixE (P : Program) : Prop where h : P.follows .mixedOrders = true
class MemH (e : Ent) (H : List Ent) : Prop where h : e ∈ H
instance MemH.there {e x : Ent} {H : List Ent} [h : MemH e H] : MemH e (x :: H) := ⟨.tail _ h.h⟩
instance (priority := high) MemH.here {e : Ent} {H : List Ent} : MemH e (e :: H) := ⟨.head _⟩
class SubH (Hc H : List Ent) : Prop where h : ∀ e ∈ Hc, e ∈ H
instance SubH.nil {H : List Ent} : SubH [] H := ⟨by simp⟩
instance SubH.cons {e : Ent} {Hc H : List Ent} [h : MemH e H] [k : SubH Hc H] : SubH (e :: Hc) H := ⟨fun x hx => (List.mem_cons.1 hx).elim (fun q => by rw [q]; exact h.h) (k.h x)⟩
def Hold (Hc : List Ent) (w : World) : Prop := ∀ e ∈ Hc, e.holds w
def DW (X : Cx) (P : Program) (N : Nat) (ops : Array Oper) (Q : Exit → Fr → World → Prop) (last : Nat) (Hc : List Ent) (n : Nat) (done : List Nat) (f : Fr) (w : World) : Prop :=
  DA P ops (QA X N Q) last (Hold Hc) n (Lm ops.size done) (FA X N f) w
def onlyN (K : Fr → World → Prop) : Exit → Fr → World → Prop
  | .normal, f, w => K f w
  | _, _, _ => False
section
variable {X : Cx} {P : Program} {N : Nat} {Q : Exit → Fr → World → Prop} {f : Fr} {w w0 : World} {M : List Nat} {H Hc : List Ent} {ops : Array Oper} {last n : Nat} {done : List Nat}
theorem DW_s [hm : MixE P] {ds : List Deferred} {id : Nat} (hs : St w0 M w H) (last : Nat) (Hc : List Ent) (k : ∀ w', St w0 M w' H → Fm [] w w' → DW ⟨none, ds⟩ P N ops Q last Hc ops.size [] f w') : CW ⟨none, ds⟩ P N (.region id ops true) Q f w :=
  (wpIn_wide (n := 9)).2 (wp_region_any hm.h (DA_any _ _ _ _ (k { w with drawn := w.drawn + 1 } (hs.dr _) ⟨rfl, rfl, rfl, Nat.le_refl _, fun _ _ _ => rfl⟩)))
theorem DW_sH [hm : MixE P] {ds : List Deferred} {id : Nat} (hs : St w0 M w H) (last : Nat) (k : ∀ w', St w0 M w' H → Fm [] w w' → DW ⟨none, ds⟩ P N ops Q last H ops.size [] f w') : CW ⟨none, ds⟩ P N (.region id ops true) Q f w := DW_s hs last H k
theorem DW_sR [hm : MixE P] {id : Nat} (hd : ops.all ndf = true) (hs : St w0 M w H) (last : Nat) (k : ∀ w', St w0 M w' H → Fm [] w w' → DW X P N ops Q last H ops.size [] f w') : CW X P N (.region id ops true) Q f w :=
  wpIn_region_any hm.h (any_in X 9 (fun _ _ h => h) hd _ _ _ _ (DA_any _ _ _ _ (k { w with drawn := w.drawn + 1 } (hs.dr _) ⟨rfl, rfl, rfl, Nat.le_refl _, fun _ _ _ => rfl⟩)))
theorem DW_b {g : Nat} {b : Bool} (hN : g < N) (hb : ev N f (.tmp g) = .bool b) (ht : b = true → DW X P N ops Q last Hc n done (upd f g (.bool true)) w) (he : b = false → DW X P N ops Q last Hc n done (upd f g (.bool false)) w) : DW X P N ops Q last Hc n done f w := by
  have hfg : f g = .bool b := by rw [ev_tmp, if_pos hN] at hb; exact hb
  cases b
  · have := he rfl; rw [upd_self hfg] at this; exact this
  · have := ht rfl; rw [upd_self hfg] at this; exact this
theorem DW_bT {g : Nat} {b : Bool} (hN : g < N) (hb : ev N f (.tmp g) = .bool b) (h : b = true) (k : DW X P N ops Q last Hc n done (upd f g (.bool true)) w) : DW X P N ops Q last Hc n done f w := DW_b hN hb (fun _ => k) (fun h2 => by rw [h] at h2; cases h2)
theorem DW_bF {g : Nat} {b : Bool} (hN : g < N) (hb : ev N f (.tmp g) = .bool b) (h : b = false) (k : DW X P N ops Q last Hc n done (upd f g (.bool false)) w) : DW X P N ops Q last Hc n done f w := DW_b hN hb (fun h2 => by rw [h] at h2; cases h2) (fun _ => k)
theorem QA_panic {c : List PanicEntry} {a a' : Act} {w : World} (h : QA X N Q (.panic c) a w) : QA X N Q (.panic c) a' w := h
theorem DW_qi (hs : St w0 M w H) [hsub : SubH Hc H] (i : Nat) {d : Nat} {op : Op} {T : TypeId} {p : String} {aft : Array Edge} {gd : Option (Nat × Bool)} {v : Value} (hi : ops[i]? = some ⟨some d, op, T, p, aft, gd⟩) (hd : dq ops done last i = true)
    (hy : YieldsIf P ops (Hold Hc) ⟨some d, op, T, p, aft, gd⟩ v (FA X N f)) (k : DW X P N ops Q last Hc n (i :: done) (upd f d v) w) : DW X P N ops Q last Hc (n + 1) done f w := by
  unfold dq at hd
  simp only [Bool.and_eq_true] at hd
  obtain ⟨⟨⟨⟨⟨h1, h2⟩, h3⟩, h4⟩, h5⟩, h6⟩ := hd
  have hil : i ≠ last := by simpa using h5
  refine DA_first hi (Region.noSelect_spec h1) (fun _ _ _ h => h) hil ?_ n (Lm ops.size done) (FA X N f) w (Lm_size _ _) (clB_spec h4) (Region.free_spec hi h2) (by simpa using h3) hy (fun e he => hs.has e (hsub.h e he)) ?_
  · intro L hsz hcl hL
    rcases Nat.lt_or_ge last ops.size with hlt | hge
    · have h6' : pathB ops ops.size last i = true := by
        have h7 := h6
        simp only [Bool.or_eq_true, decide_eq_true_eq] at h7
        rcases h7 with h7 | h7
        · omega
        · exact h7
      refine pathB_listed hcl _ last h6' (fun o ho e he hb => ?_)
      rcases hL with hL | hL
      · obtain ⟨_, o', ho', hall⟩ := mem_ready.1 hL
        rw [ho] at ho'; injection ho' with ho'; subst ho'
        exact hall e he hb
      · exact hcl last o ho hL e he hb
    · exfalso
      rcases hL with hL | hL
      · obtain ⟨_, o', ho', _⟩ := mem_ready.1 hL
        have := (Array.getElem?_eq_some_iff.1 ho').1; omega
      · simp [Array.getD, show ¬ last < L.size from by omega] at hL
  · rw [FA_put]; exact k
/-- An operation that only reads is taken first. -/
theorem DW_q (hs : St w0 M w H) [hsub : SubH Hc H] (i : Nat) {d : Nat} {op : Op} {T : TypeId} {p : String} {aft : Array Edge} {v : Value} (hi : ops[i]? = some ⟨some d, op, T, p, aft, none⟩) (hd : dq ops done last i = true)
    (hv : ∀ w', Hold Hc w' → Ex P N f w' ⟨some d, op, T, p, aft, none⟩ v w') (k : DW X P N ops Q last Hc n (i :: done) (upd f d v) w) : DW X P N ops Q last Hc (n + 1) done f w :=
  DW_qi hs i hi hd (.inl ⟨rfl, fun w' hw' => by have := hv w' hw'; unfold Ex at this; rw [FA_eval]; exact this⟩) k
/-- A guarded one: carried out .. -/
theorem DW_qy (hs : St w0 M w H) [hsub : SubH Hc H] (i : Nat) {d j g : Nat} {want : Bool} {op : Op} {T : TypeId} {p : String} {aft : Array Edge} {v : Value} (hi : ops[i]? = some ⟨some d, op, T, p, aft, some (j, want)⟩) (hd : dq ops done last i = true)
    (hg : (ops[j]?).bind (·.dst) = some g) (hN : g < N) (hb : ev N f (.tmp g) = .bool want)
    (hv : ∀ w', Hold Hc w' → Ex P N f w' ⟨some d, op, T, p, aft, none⟩ v w') (k : DW X P N ops Q last Hc n (i :: done) (upd f d v) w) : DW X P N ops Q last Hc (n + 1) done f w := by
  have hw : Region.wanted (⟨some d, op, T, p, aft, some (j, want)⟩ : Oper) (yielded ops (FA X N f).tmps) = true := by
    have hfg : f g = .bool want := by rw [ev_tmp, if_pos hN] at hb; exact hb
    simp [Region.wanted, yielded, hg, FA_get?, hN, hfg]
  exact DW_qi hs i hi hd (.inl ⟨hw, fun w' hw' => by have := hv w' hw'; unfold Ex at this; rw [FA_eval]; exact this⟩) k
/-- .. or passed over. -/
theorem DW_qn (hs : St w0 M w H) [hsub : SubH Hc H] (i : Nat) {d j g : Nat} {want : Bool} {op : Op} {T : TypeId} {p : String} {aft : Array Edge} (hi : ops[i]? = some ⟨some d, op, T, p, aft, some (j, want)⟩) (hd : dq ops done last i = true)
    (hg : (ops[j]?).bind (·.dst) = some g) (hN : g < N) (hb : ev N f (.tmp g) = .bool (!want))
    (k : DW X P N ops Q last Hc n (i :: done) (upd f d undef) w) : DW X P N ops Q last Hc (n + 1) done f w := by
  have hw : Region.wanted (⟨some d, op, T, p, aft, some (j, want)⟩ : Oper) (yielded ops (FA X N f).tmps) = false := by
    have hfg : f g = .bool (!want) := by rw [ev_tmp, if_pos hN] at hb; exact hb
    simp [Region.wanted, yielded, hg, FA_get?, hN, hfg]
  exact DW_qi hs i hi hd (.inr ⟨hw, rfl⟩) k
theorem wpOp_of_WL {o : Oper} {i : Nat} {K : Fr → World → Prop} (hi : ops[i]? = some o) (h : WL X P N ops (onlyN K) [o] f w) : wpOp P ops (QA X N Q) i (fun a' w' => ∃ f', a' = FA X N f' ∧ K f' w') (FA X N f) w := by
  unfold wpOp
  simp only [hi]
  unfold WL wpList at h
  split
  · rename_i hw
    rw [if_pos hw] at h
    left
    rcases h with h | ⟨_, _, _, h⟩
    · unfold Oper.wp at h ⊢
      generalize (execOp (FA X N f).eval o).run P w = r at h
      cases r with
      | ok nx w' =>
        cases nx <;> simp only [Oper.upon] at h ⊢ <;> first
          | exact h
          | (refine Calls.mono h ?_
             intro e w'' he
             cases e <;> exact he)
          | (refine Rows.mono h ?_
             intro e w'' he
             exact he)
      | halt x w' => cases x <;> simp only [Oper.upon] at h ⊢ <;> exact h
    · exact h.elim
  · rename_i hw
    rw [if_neg hw] at h
    exact h
/-- The one operation that may come now. -/
theorem DW_l (i : Nat) {o : Oper} (hi : ops[i]? = some o) (hr : Region.ready .any ops (Lm ops.size done) = [i])
    (h : WL X P N ops (onlyN fun f' w' => (i = last ∨ Hold Hc w') ∧ DW X P N ops Q last Hc n (i :: done) f' w') [o] f w) : DW X P N ops Q last Hc (n + 1) done f w := by
  refine ⟨fun h0 => absurd (hr ▸ h0) (by simp), fun j hj => ?_⟩
  rw [hr] at hj
  simp only [List.mem_singleton] at hj
  subst hj
  refine wpOp_mono ?_ (wpOp_of_WL hi h)
  rintro a' w' ⟨f', rfl, h1, h2⟩
  refine ⟨?_, h2⟩
  rcases h1 with h1 | h1
  · left
    have hlt : j < ops.size := (Array.getElem?_eq_some_iff.1 hi).1
    rw [← h1]
    simp [Array.getD, Lm_size, hlt]
  · exact .inr h1
theorem DW_e (hr : Region.ready .any ops (Lm ops.size done) = []) (h : Q .normal f w) : DW X P N ops Q last Hc n done f w := by
  cases n with
  | zero => exact ⟨hr, f, rfl, h⟩
  | succ n => exact ⟨fun _ => ⟨f, rfl, h⟩, fun i hi => by rw [hr] at hi; cases hi⟩
theorem St.hold (hs : St w0 M w H) [hsub : SubH Hc H] : Hold Hc w := fun e he => hs.has e (hsub.h e he)
variable {A : TypeId} {b off m : Nat} {q : Bool} {l : List Value} {fr : Nat × Nat} {T T' : TypeId} {v : Value} {d : Nat} {x : Operand} {p : String} {aft : Array Edge}
theorem X_ldH (hc : Hold Hc w) [hA : AgE P A false] [hm : InB b Hc q (.cells l.toArray T' fr)] (hx : ev N f x = .pointer (some ⟨b, off, none⟩)) (hv : l[off]? = some v) : Ex P N f w ⟨some d, .load A x, T, p, aft, none⟩ v w :=
  X_loadc hx (by rw [cell_of_blk (show w.heap[b]? = some (.cells l.toArray T' fr) from hc _ hm.h)]; exact hv)
theorem X_ldAH (hc : Hold Hc w) [hA : AgE P A true] [hn : SzE P A m] (hx : ev N f x = .pointer (some ⟨b, off, none⟩)) [hm : InB b Hc q (.cells l.toArray T' fr)] (hl : off + m ≤ l.length) : Ex P N f w ⟨some d, .load A x, T, p, aft, none⟩ (.agg (subl l off m).toArray) w :=
  X_loadAb hx (hc _ hm.h) hl rfl
end

end Go.Proofs.YtkbldndbofbkcaaGreatDoor
/- The engine, part J: pieces that stay while another one turns. -/
namespace Go.Proofs.YtkbldndbofbkcaaGreatDoor
open Go Go.RowKit
class InE (e : Ent) (H : List Ent) : Prop where h : e ∈ H
instance InE.there {e x : Ent} {H : List Ent} [h : InE e H] : InE e (x :: H) := ⟨.tail _ h.h⟩
instance (priority := high) InE.here {e : Ent} {H : List Ent} : InE e (e :: H) := ⟨.head _⟩
/-- A block ahead of the piece e, or behind it. -/
class BfB (b : Nat) (e : Ent) (H : List Ent) (q : outParam Bool) (o : outParam Obj) : Prop where h : eB b q o ∈ H ∧ (H.Pairwise (fun x y => ∀ b ∈ x.fp, b ∉ y.fp) → ∀ c ∈ (eB b q o).fp, c ∉ e.fp)
instance BfB.there {b : Nat} {e x : Ent} {H : List Ent} {q : Bool} {o : Obj} [h : BfB b e H q o] : BfB b e (x :: H) q o := ⟨.tail _ h.h.1, fun hp => h.h.2 (List.pairwise_cons.1 hp).2⟩
instance (priority := high) BfB.here {b : Nat} {e : Ent} {H : List Ent} {q : Bool} {o : Obj} [h : InE e H] : BfB b e (eB b q o :: H) q o := ⟨.head _, fun hp c hc => (List.pairwise_cons.1 hp).1 e h.h c hc⟩
instance (priority := high) BfB.behind {b : Nat} {e : Ent} {H : List Ent} {q : Bool} {o : Obj} [h : InB b H q o] : BfB b e (e :: H) q o := ⟨.tail _ h.h, fun hp c hc hq => (List.pairwise_cons.1 hp).1 _ h.h c hq hc⟩
class BfR (a : Option Addr) (e : Ent) (n cap : outParam Nat) (H : List Ent) (E size : outParam Nat) (xs : outParam (List Value)) : Prop where h : eR (.slice a n cap) E size n xs ∈ H ∧ (H.Pairwise (fun x y => ∀ b ∈ x.fp, b ∉ y.fp) → ∀ c ∈ (eR (.slice a n cap) E size n xs).fp, c ∉ e.fp)
instance BfR.there {a : Option Addr} {e x : Ent} {n cap : Nat} {H : List Ent} {E size : Nat} {xs : List Value} [h : BfR a e n cap H E size xs] : BfR a e n cap (x :: H) E size xs := ⟨.tail _ h.h.1, fun hp => h.h.2 (List.pairwise_cons.1 hp).2⟩
instance (priority := high) BfR.here {a : Option Addr} {e : Ent} {n cap : Nat} {H : List Ent} {E size : Nat} {xs : List Value} [h : InE e H] : BfR a e n cap (eR (.slice a n cap) E size n xs :: H) E size xs := ⟨.head _, fun hp c hc => (List.pairwise_cons.1 hp).1 e h.h c hc⟩
instance (priority := high) BfR.behind {a : Option Addr} {e : Ent} {n cap : Nat} {H : List Ent} {E size : Nat} {xs : List Value} [h : InR a n cap H E size xs] : BfR a e n cap (e :: H) E size xs := ⟨.tail _ h.h, fun hp c hc hq => (List.pairwise_cons.1 hp).1 _ h.h c hq hc⟩
section
variable {w0 w w' : World} {M : List Nat} {H : List Ent}
theorem St.kpB (hs : St w0 M w H) (e : Ent) (hf : Fm e.fp w w') {b : Nat} {q : Bool} {o : Obj} [h : BfB b e H q o] : w'.heap[b]? = some o :=
  (eB b q o).loc (fun c hc => hf.block c ((eB b q o).lt (hs.has _ h.h.1) c hc) (h.h.2 hs.sep c hc)) (hs.has _ h.h.1)
theorem St.kpR (hs : St w0 M w H) (e : Ent) (hf : Fm e.fp w w') {a : Option Addr} {n cap : Nat} {E size : Nat} {xs : List Value} [h : BfR a e n cap H E size xs] : Rd w' a n size xs :=
  Rd.of_row (B := 0) (E := E) (cap := cap) ((eR (.slice a n cap) E size n xs).loc (fun c hc => hf.block c ((eR (.slice a n cap) E size n xs).lt (hs.has _ h.h.1) c hc) (h.h.2 hs.sep c hc)) (hs.has _ h.h.1))
theorem St.kpD (hs : St w0 M w H) (e : Ent) (hf : Fm e.fp w w') {b off n size : Nat} {q : Bool} {l ys : List Value} {T : TypeId} {fr : Nat × Nat} [h : BfB b e H q (.cells l.toArray T fr)] (hl : off + n * size ≤ l.length) (hy : subl l off (n * size) = ys) : Rd w' (some ⟨b, off, none⟩) n size ys :=
  rdB (St.one (M := []) (q := false) (hs.kpB e hf (b := b)) (by simp)) hl hy
theorem St.he (hs : St w0 M w H) (e : Ent) [h : InE e H] : e.holds w := hs.has e h.h
/-- The beginning of a walk over a piece. -/
theorem St.ent {w : World} {e : Ent} (h : e.holds w) : St w e.fp w [e] := (St.init w e.fp).put h (by simp) (fun _ _ hb => .inr hb)
end
end Go.Proofs.YtkbldndbofbkcaaGreatDoor
/- The engine, part K: a range over a function: the iterator's contract over whatever the caller holds; the statement; a call of yield. -/
namespace Go.Proofs.YtkbldndbofbkcaaGreatDoor
open Go Go.RowKit
theorem room_cx (X : Cx) (n : Nat) : X.F.room n := fun _ h => by simp [Cx.F, Fence.wide] at h
theorem wpIn_num {X : Cx} {n m : Nat} {P : Program} {c : Code} {Q : Exit → Act → World → Prop} {a : Act} {w : World} (h : c.wpIn X.F n P Q a w) : c.wpIn X.F m P Q a w :=
  fun b k cs hro hb _ => h b k cs hro hb (room_cx X _)
theorem fm_put (w : World) (l : Nat) (o : Obj) : Fm [l] w (w.putObj l o) := ⟨rfl, rfl, rfl, by simp, fun k _ hk => World.putObj_heap_other (by simpa using hk)⟩
/-- What one holds, with the loop's record and the block of its rounds. -/
def eU (e : Ent) (l D : Nat) (o : Obj) : Ent :=
  ⟨l :: D :: e.fp, true, fun w => e.holds w ∧ l ∉ e.fp ∧ D ∉ e.fp ∧ l ≠ D ∧ w.heap[l]? = some o ∧ w.heap[D]? = some (.deferred (some [])),
    fun h ⟨k1, k2, k3, k4, k5, k6⟩ => ⟨e.loc (fun b hb => h b (by simp [hb])) k1, k2, k3, k4, by rw [h l (by simp)]; exact k5, by rw [h D (by simp)]; exact k6⟩,
    fun h x hx => by
      obtain ⟨k1, _, _, _, k5, k6⟩ := h
      rcases List.mem_cons.1 hx with rfl | hx
      · exact heap_lt k5
      · rcases List.mem_cons.1 hx with rfl | hx
        · exact heap_lt k6
        · exact e.lt k1 x hx⟩
/-- Behind a step: the piece e has become e'. -/
def Turned (e e' : Ent) (w w' : World) : Prop := e'.own = true ∧ e'.holds w' ∧ Fm e.fp w w' ∧ ∀ b ∈ e'.fp, b ∈ e.fp ∨ w.heap.size ≤ b
/-- AN ITERATOR: function gf with the captured values lb hands over some list (S), or a part of one (Sp) where a round says that it is enough; it holds whatever the caller holds. -/
def ItC {α : Type} (P : Program) (gf : FuncId) (lb : List Value) (enc : α → Value) (S Sp : List α → Prop) (Pre : Ent → World → Prop) : Prop :=
  ∀ (l : Nat) (J Jx : List α → Ent → Prop) (e : Ent) (W : World), Pre e W → e.own = true → e.holds W → J [] e →
    (∀ pre x e W1, Sp (pre ++ [x]) → J pre e → e.own = true → e.holds W1 → YieldAt Fence.wide 8 P l #[enc x] W1 fun en W' => ∃ v e', en = .returned (.bool v) ∧ Turned e e' W1 W' ∧ if v = true then J (pre ++ [x]) e' else Jx (pre ++ [x]) e') →
    Ret P gf (.func (.yield l) #[] #[] :: lb).toArray W fun _ W' => ∃ e', Turned e e' W W' ∧ ((∃ xs, S xs ∧ J xs e') ∨ (∃ pre, Sp pre ∧ Jx pre e'))
/-- How a round may be left. -/
def RndQ {α : Type} (l : Nat) (Lb : Obj) (J : List α → Ent → Prop) (Jx : Code → List α → Ent → Prop) (xs : List α) (e : Ent) (W : World) : Exit → Fr → World → Prop
  | .normal, _, W' => W'.heap[l]? = some Lb ∧ ∃ e', e'.own = true ∧ e'.holds W' ∧ Fm (l :: e.fp) W W' ∧ (∀ b ∈ e'.fp, b ∈ e.fp ∨ W.heap.size ≤ b) ∧ J xs e'
  | .ret, _, W' => W'.heap[l]? = some Lb ∧ ∃ e', e'.own = true ∧ e'.holds W' ∧ Fm (l :: e.fp) W W' ∧ (∀ b ∈ e'.fp, b ∈ e.fp ∨ W.heap.size ≤ b) ∧ Jx .ret xs e'
  | .exit id, _, W' => W'.heap[l]? = some Lb ∧ ∃ e', e'.own = true ∧ e'.holds W' ∧ Fm (l :: e.fp) W W' ∧ (∀ b ∈ e'.fp, b ∈ e.fp ∨ W.heap.size ≤ b) ∧ Jx (.exit id) xs e'
  | _, _, _ => False
def mark (D : Nat) : Deferred := { target := .collected D, args := #[] }
theorem FA_round (l : Nat) (N : Nat) (f : Fr) (p : Nat) (v : Value) : ({ tmps := (#[p].zip #[v]).foldl (fun t (x : Nat × Value) => t.setIfInBounds x.1 x.2) (FA X0 N f).tmps, defers := [] } : Act) = FA ⟨some l, []⟩ N (upd f p v) := by
  have := FA_put ⟨some l, []⟩ N f p v
  rw [← this]
  simp [FA, Act.put]
section
variable {P : Program} {N : Nat} {f : Fr} {w : World} {α : Type} {enc : α → Value} {S Sp : List α → Prop} {Pre : Ent → World → Prop}
theorem range_law {g : Operand} {p : Nat} {assign body : Code} {gf : FuncId} {lb : List Value} [hc : CallE P gf] (hg : ev N f g = .func (.func gf) #[] lb.toArray) (hit : ItC P gf lb enc S Sp Pre)
    (J : List α → Ent → Prop) (Jx : Code → List α → Ent → Prop) (e0 : Ent) (hown : e0.own = true) (he : e0.holds w) (h0 : J [] e0)
    (hPre : ∀ e W, (∀ b ∈ e.fp, b ∈ e0.fp ∨ w.heap.size ≤ b) → Fm [] w W → Pre e W)
    (round : ∀ (l : Nat) (Lr Lb : Obj) (pre : List α) (x : α) (e : Ent) (W : World), Sp (pre ++ [x]) → J pre e → e.own = true → e.holds W → l ∉ e.fp → W.heap[l]? = some Lr →
      CW ⟨some l, []⟩ P N assign (fun ex f1 W1 => ex = .normal ∧ W1.heap[l]? = some Lr ∧ CW ⟨some l, []⟩ P N body (RndQ l Lb J Jx (pre ++ [x]) e W) f1 (W1.putObj l Lb)) (upd f p (enc x)) W)
    {Q : Exit → Act → World → Prop}
    (hdone : ∀ D xs e W, S xs → J xs e → Turned e0 e w W → D ∉ e.fp → w.heap.size ≤ D → W.heap[D]? = some (.deferred (some [])) → Q .normal (FA ⟨none, [mark D]⟩ N f) W)
    (hstop : ∀ D c pre e W, Sp pre → Jx c pre e → Turned e0 e w W → D ∉ e.fp → w.heap.size ≤ D → W.heap[D]? = some (.deferred (some [])) → c.wpIn Fence.wide 9 P Q (FA ⟨none, [mark D]⟩ N f) W) :
    (Code.rangeFunc g #[p] assign body).wpIn Fence.wide 9 P Q (FA X0 N f) w := by
  refine wpIn_rangeFunc ?_
  intro fn hfn
  obtain ⟨rec, hrec⟩ : ∃ rec : LoopState → Option Code → Loop, rec = fun st pe => { state := st, pending := pe, fn, tmps := (FA X0 N f).tmps, params := #[p], assign, body, defers := w.heap.size } := ⟨_, rfl⟩
  obtain ⟨W1, hW1⟩ : ∃ W1, (w.alloc (.deferred (some []))).alloc (.loop (rec .ready none)) = W1 := ⟨_, rfl⟩
  have hL1 : W1.heap[w.heap.size + 1]? = some (.loop (rec .ready none)) := by
    rw [← hW1]; have := World.alloc_heap_new (w.alloc (.deferred (some []))) (.loop (rec .ready none)); rwa [World.size_alloc] at this
  have hfm : Fm [] w W1 := by rw [← hW1]; exact (fm_alloc w _).then (fm_alloc _ _)
  have hK1 : W1.heap[w.heap.size]? = some (.deferred (some [])) := by
    rw [← hW1]; exact (Below.heap_alloc _ _ _ (by simp)).trans (World.alloc_heap_new w _)
  have hl0 : ∀ k, w.heap.size ≤ k → k ∉ e0.fp := fun k hk hm => by have := e0.lt he k hm; omega
  refine ⟨w.heap.size + 1, [mark w.heap.size], W1, { target := .fn (.func gf) lb.toArray, args := #[.func (.yield (w.heap.size + 1)) #[] #[]] }, W1, gf,
    (.func (.yield (w.heap.size + 1)) #[] #[] :: lb).toArray, W1, ?_, ?_, fun _ _ => trivial, ?_, fun h => by simp [Fence.wide] at h, ?_⟩
  · rw [← hW1, hrec]; exact run_enterLoop_outer _ _ _ _ _
  · have : (FA X0 N f).eval g = .func (.func gf) #[] lb.toArray := by rw [FA_eval]; exact hg
    simp only [resolve, this]
    simp [go_sem]
  · simp [invoke, go_sem, hc.h]
  · refine (callsIn_wide (n := 8)).2 ?_
    have hj := hit (w.heap.size + 1) (fun pre e => ∃ u, J pre u ∧ u.own = true ∧ e = eU u (w.heap.size + 1) w.heap.size (.loop (rec .ready none)))
      (fun pre e => ∃ c u, Jx c pre u ∧ u.own = true ∧ e = eU u (w.heap.size + 1) w.heap.size (.loop (rec .done (some c))))
      (eU e0 (w.heap.size + 1) w.heap.size (.loop (rec .ready none))) W1
      (hPre _ _ (fun b hb => by
        rcases List.mem_cons.1 hb with rfl | hb
        · right; omega
        · rcases List.mem_cons.1 hb with rfl | hb
          · right; omega
          · exact .inl hb) hfm) rfl
      ⟨e0.loc (fun b hb => hfm.block b (e0.lt he b hb) (by simp)) he, hl0 _ (by omega), hl0 _ (by omega), by omega, hL1, hK1⟩ ⟨e0, h0, hown, rfl⟩ ?_
    · refine Calls.mono hj ?_
      rintro en W2 ⟨v, rfl, e', ⟨t1, t2, t3, t4⟩, h⟩
      have htr : ∀ u o, e' = eU u (w.heap.size + 1) w.heap.size o → u.own = true → ∀ o', Turned e0 u w (W2.putObj (w.heap.size + 1) o') ∧ w.heap.size ∉ u.fp ∧ (W2.putObj (w.heap.size + 1) o').heap[w.heap.size]? = some (.deferred (some [])) := by
        intro u o hu huo o'
        subst hu
        obtain ⟨k1, k2, k3, k4, k5, k6⟩ := t2
        refine ⟨⟨huo, u.loc (fun b hb => World.putObj_heap_other (fun hq => k2 (hq ▸ hb))) k1, ?_, ?_⟩, k3, (World.putObj_heap_other (by omega)).trans k6⟩
        · have h1 : Fm e0.fp w W2 := (hfm.mono (M' := e0.fp) (by simp)).trans t3 (fun x hx hlt => by
            rcases List.mem_cons.1 hx with rfl | hx
            · omega
            · rcases List.mem_cons.1 hx with rfl | hx
              · omega
              · exact hx)
          exact h1.trans (fm_put W2 _ _) (fun x hx hlt => by simp at hx; omega)
        · intro b hb
          rcases t4 b (List.mem_cons_of_mem _ (List.mem_cons_of_mem _ hb)) with h1 | h1
          · rcases List.mem_cons.1 h1 with rfl | h1
            · right; omega
            · rcases List.mem_cons.1 h1 with rfl | h1
              · right; omega
              · exact .inl h1
          · right; have := hfm.size; omega
      rcases h with ⟨xs, hS, u, hJ, huo, rfl⟩ | ⟨pre, hSp, c, u, hJ, huo, rfl⟩
      · obtain ⟨k1, k2, k3⟩ := htr u _ rfl huo (.loop { rec .ready none with state := .exhausted })
        exact ⟨none, _, by have := run_endLoop (P := P) t2.2.2.2.2.1 (by rw [hrec]; simp); rw [hrec] at this ⊢; exact this, hdone _ xs u _ hS hJ k1 k2 (Nat.le_refl _) k3⟩
      · obtain ⟨k1, k2, k3⟩ := htr u _ rfl huo (.loop { rec .done (some c) with state := .exhausted })
        exact ⟨some c, _, by have := run_endLoop (P := P) t2.2.2.2.2.1 (by rw [hrec]; simp); rw [hrec] at this ⊢; exact this, hstop _ c pre u _ hSp hJ k1 k2 (Nat.le_refl _) k3⟩
    · rintro pre x e W hSp ⟨u, hJ, huo, rfl⟩ _ ⟨k1, k2, k3, k4, k5, k6⟩
      have hy := run_yield (P := P) (args := #[enc x]) k5 (by rw [hrec]; rfl)
      rw [hrec] at hy
      have hr := round (w.heap.size + 1) _ (.loop { rec .ready none with state := .busy }) pre x u W hSp hJ huo k1 k2 k5
      refine ⟨fn, _, assign, body, hy, roundIn_of_wpIn hfn ?_⟩
      have hfr := FA_round (w.heap.size + 1) N f p (enc x)
      have hr' : assign.wpIn (Fence.wide.inRound (w.heap.size + 1)) 8 P _ (FA ⟨some (w.heap.size + 1), []⟩ N (upd f p (enc x))) W := wpIn_num (X := ⟨some (w.heap.size + 1), []⟩) (m := 8) hr
      rw [← hfr] at hr'
      refine wpIn_mono hr' ?_
      intro ex a1 V1 hq
      cases ex with
      | normal =>
        obtain ⟨f1, rfl, _, hl1, hbody⟩ := hq
        refine ⟨_, run_beginRound hl1 (by rw [hrec]), ?_⟩
        have hb' : body.wpIn (Fence.wide.inRound (w.heap.size + 1)) 8 P _ (FA ⟨some (w.heap.size + 1), []⟩ N f1) (V1.putObj (w.heap.size + 1) (.loop { rec .ready none with state := .busy })) := wpIn_num (X := ⟨some (w.heap.size + 1), []⟩) (m := 8) hbody
        refine wpIn_mono hb' ?_
        have fin : ∀ (jump : Option Code) (V3 : World), V3.heap[w.heap.size + 1]? = some (.loop { rec .ready none with state := .busy }) →
            (Instr.endRound (w.heap.size + 1) jump).run P V3 = .ok (.bool jump.isNone) (V3.putObj (w.heap.size + 1) (.loop (rec (if jump.isNone then .ready else .done) jump))) := fun jump V3 hl3 => by
          have := run_endRound (P := P) jump hl3
          rw [hrec] at this ⊢
          exact this
        have gen : ∀ (e' : Ent) (V3 : World) (o : Obj), V3.heap[w.heap.size + 1]? = some (.loop { rec .ready none with state := .busy }) → e'.holds V3 → Fm ((w.heap.size + 1) :: u.fp) W V3 → (∀ b ∈ e'.fp, b ∈ u.fp ∨ W.heap.size ≤ b) →
            Turned (eU u (w.heap.size + 1) w.heap.size (.loop (rec .ready none))) (eU e' (w.heap.size + 1) w.heap.size o) W (V3.putObj (w.heap.size + 1) o) := by
          intro e' V3 o hl3 he3 hf3 hp3
          have hlw := heap_lt k5
          have hDw := heap_lt k6
          have n1 : w.heap.size + 1 ∉ e'.fp := fun hm => by rcases hp3 _ hm with h1 | h1; · exact k2 h1
                                                            · omega
          have n2 : w.heap.size ∉ e'.fp := fun hm => by rcases hp3 _ hm with h1 | h1; · exact k3 h1
                                                        · omega
          refine ⟨rfl, ⟨e'.loc (fun b hb => World.putObj_heap_other (fun hq => n1 (hq ▸ hb))) he3, n1, n2, k4, World.putObj_heap_same (heap_lt hl3), (World.putObj_heap_other (by omega)).trans (hf3.keep k6 ?_)⟩, ?_, ?_⟩
          · intro hm
            rcases List.mem_cons.1 hm with h1 | h1
            · omega
            · exact k3 h1
          · exact (hf3.mono (M' := (eU u (w.heap.size + 1) w.heap.size (.loop (rec .ready none))).fp) (fun x hx => by
              rcases List.mem_cons.1 hx with rfl | hx
              · exact List.mem_cons_self
              · exact List.mem_cons_of_mem _ (List.mem_cons_of_mem _ hx))).trans (fm_put V3 _ _) (fun x hx _ => by simp at hx; subst hx; exact List.mem_cons_self)
          · intro b hb
            rcases List.mem_cons.1 hb with rfl | hb
            · exact .inl List.mem_cons_self
            · rcases List.mem_cons.1 hb with rfl | hb
              · exact .inl (List.mem_cons_of_mem _ List.mem_cons_self)
              · exact (hp3 b hb).imp (fun h => List.mem_cons_of_mem _ (List.mem_cons_of_mem _ h)) id
        intro ex2 a2 V3 hq2
        cases ex2 with
        | normal =>
          obtain ⟨f2, rfl, hl3, e', h1, h2, h3, h4, h5⟩ := hq2
          exact ⟨_, _, fin none V3 hl3, true, _, rfl, gen e' V3 _ hl3 h2 h3 h4, by rw [if_pos rfl]; exact ⟨e', h5, h1, rfl⟩⟩
        | ret =>
          obtain ⟨f2, rfl, hl3, e', h1, h2, h3, h4, h5⟩ := hq2
          exact ⟨_, _, fin (some .ret) V3 hl3, false, _, rfl, gen e' V3 _ hl3 h2 h3 h4, by rw [if_neg (by simp)]; exact ⟨_, e', h5, h1, rfl⟩⟩
        | exit id =>
          obtain ⟨f2, rfl, hl3, e', h1, h2, h3, h4, h5⟩ := hq2
          exact ⟨_, _, fin (some (.exit id)) V3 hl3, false, _, rfl, gen e' V3 _ hl3 h2 h3 h4, by rw [if_neg (by simp)]; exact ⟨_, e', h5, h1, rfl⟩⟩
        | goto t => obtain ⟨f2, _, h⟩ := hq2; exact h.elim
        | panic c => exact hq2.elim
        | outgrown => exact hq2.elim
      | ret => obtain ⟨_, _, h, _⟩ := hq; cases h
      | exit id => obtain ⟨_, _, h, _⟩ := hq; cases h
      | goto t => obtain ⟨_, _, h, _⟩ := hq; cases h
      | panic c => exact hq.elim
      | outgrown => exact hq.elim
/-! ### a function whose body holds a range over a function -/
/-- What is asked at its end: the block of the rounds is shut. -/
def PostM (P : Program) (fn : Func) (N : Nat) (R : Value → World → Prop) (D : Nat) : Exit → Fr → World → Prop
  | .normal, f, w | .ret, f, w => w.heap[D]? = some (.deferred (some [])) ∧ PostF P fn N R .ret f (w.putObj D (.deferred none))
  | _, _, _ => False
def RW (P : Program) (fn : Func) (N : Nat) (R : Value → World → Prop) (c : Code) (f : Fr) (w : World) : Prop :=
  c.wpIn Fence.wide 9 P (bodyPostM Fence.wide 9 P fn fun e w' => ∃ v, e = .returned v ∧ R v w') (FA X0 N f) w
variable {fn : Func} {R : Value → World → Prop}
theorem PostM_mk {D : Nat} (h : w.heap[D]? = some (.deferred (some []))) (k : PostF P fn N R .ret f (w.putObj D (.deferred none))) : PostM P fn N R D .ret f w := ⟨h, k⟩
theorem PostM_n {D : Nat} (h : w.heap[D]? = some (.deferred (some []))) (k : PostF P fn N R .ret f (w.putObj D (.deferred none))) : PostM P fn N R D .normal f w := ⟨h, k⟩
theorem leavesM {D : Nat} (h : PostM P fn N R D .ret f w) : LeavesInM Fence.wide 9 P fn (FA ⟨none, [mark D]⟩ N f).tmps (fun e w' => ∃ v, e = .returned v ∧ R v w') (FA ⟨none, [mark D]⟩ N f).defers .returning w := by
  obtain ⟨h1, v, h2, h3⟩ := h
  exact ⟨by simp, .inl ⟨D, _, rfl, run_takeDeferred h1, v, h2, v, rfl, h3⟩⟩
theorem RW_enter {k : FuncId} {c : Code} {args : List Value} (hf : P.funcs[k]? = some fn) (hb : fn.body = some c) (hN : fn.ntmps = N) (ha : args.length ≤ N) (h : RW P fn N R c (arg args) w) : Ret P k args.toArray w R := by
  subst hN
  refine (callsIn_wide (n := 9)).1 (callsIn_of_wp_marks hf hb trivial ?_)
  rw [FA_arg ha]
  exact h
theorem RW_seq {x y : Code} (h : ∀ K : Fr → World → Prop, (∀ f w, RW P fn N R y f w → K f w) → CW X0 P N x (onlyN K) f w) : RW P fn N R (.seq x y) f w := by
  refine wpIn_seq (wpIn_mono (h (RW P fn N R y) fun _ _ h => h) ?_)
  intro e a w h
  cases e with
  | normal => obtain ⟨f, rfl, h⟩ := h; exact h
  | ret => obtain ⟨_, _, h⟩ := h; exact h.elim
  | exit id => obtain ⟨_, _, h⟩ := h; exact h.elim
  | goto t => obtain ⟨_, _, h⟩ := h; exact h.elim
  | panic c => exact h.elim
  | outgrown => exact h.elim
/-- What is owed where the range begins. -/
def RngH (P : Program) (fn : Func) (N : Nat) (R : Value → World → Prop) (c y : Code) (f : Fr) (w : World) : Prop :=
  ∀ Q : Exit → Act → World → Prop, (∀ D f' W, CW ⟨none, [mark D]⟩ P N y (PostM P fn N R D) f' W → Q .normal (FA ⟨none, [mark D]⟩ N f') W) →
    (∀ D f' W, PostM P fn N R D .ret f' W → Code.ret.wpIn Fence.wide 9 P Q (FA ⟨none, [mark D]⟩ N f') W) → c.wpIn Fence.wide 9 P Q (FA X0 N f) w
theorem RW_range {z c y : Code} {id : Nat} (h : ∀ K : Fr → World → Prop, (∀ f w, RngH P fn N R c y f w → K f w) → CW X0 P N z (onlyN K) f w) : RW P fn N R (.seq (.seq z (.block id c)) y) f w := by
  refine wpIn_seq (wpIn_seq (wpIn_mono (h (RngH P fn N R c y) fun _ _ h => h) ?_))
  intro e a w h
  cases e with
  | normal =>
    obtain ⟨f, rfl, h⟩ := h
    refine wpIn_block (h _ ?_ ?_)
    · intro D f' W hy
      refine wpIn_mono hy ?_
      intro e a w hq
      cases e with
      | normal => obtain ⟨f, rfl, h1, v, h2, h3⟩ := hq; exact leavesM ⟨h1, v, h2, h3⟩
      | ret => obtain ⟨f, rfl, h1, v, h2, h3⟩ := hq; exact leavesM ⟨h1, v, h2, h3⟩
      | exit id => obtain ⟨_, _, h⟩ := hq; exact h.elim
      | goto t => obtain ⟨_, _, h⟩ := hq; exact h.elim
      | panic c => exact hq.elim
      | outgrown => exact hq.elim
    · intro D f' W hp
      exact wpIn_ret (leavesM hp)
  | ret => obtain ⟨_, _, h⟩ := h; exact h.elim
  | exit id => obtain ⟨_, _, h⟩ := h; exact h.elim
  | goto t => obtain ⟨_, _, h⟩ := h; exact h.elim
  | panic c => exact h.elim
  | outgrown => exact h.elim
theorem St.putD {w0 : World} {M : List Nat} {H : List Ent} (hs : St w0 M w H) (D : Nat) {o : Obj} {F : Obj → List Ent} [hr : RpB D H o F] (o' : Obj) : St w0 M (w.putObj D o') (F o') :=
  hs.rep (hr.h o') rfl (fm_put w D o') (World.putObj_heap_same (heap_lt (hs.get (hr.h o').mem))) (fun b hb => .inl hb)
/-! ### a call of yield -/
theorem St.ownedBy {w0 : World} {M : List Nat} {H : List Ent} (hs : St w0 M w H) (e : Ent) (ho : e.own = true) [h : InE e H] : ∀ b ∈ e.fp, b ∈ M ∨ w0.heap.size ≤ b := fun b hb => (hs.own e h.h ho b hb).symm
/-- What a walk that began with the piece e leaves. -/
theorem St.turned {w0 : World} {e : Ent} {H : List Ent} (hs : St w0 e.fp w H) (e' : Ent) (ho : e'.own = true) [h : InE e' H] : Turned e e' w0 w := ⟨ho, hs.has _ h.h, hs.fm, hs.ownedBy e' ho⟩
class RpE (e : Ent) (H : List Ent) (F : outParam (Ent → List Ent)) : Prop where h : ∀ e', Rep e e' H (F e')
instance RpE.there {e x : Ent} {H : List Ent} {F : Ent → List Ent} [h : RpE e H F] : RpE e (x :: H) (fun e' => x :: F e') := ⟨fun e' => .there (h.h e')⟩
instance (priority := high) RpE.here {e : Ent} {H : List Ent} : RpE e (e :: H) (fun e' => e' :: H) := ⟨fun _ => .here⟩
theorem St.turnE {w0 w' : World} {M : List Nat} {H : List Ent} {e e' : Ent} {F : Ent → List Ent} (hs : St w0 M w H) [h : RpE e H F] (ho : e.own = true) (ht : Turned e e' w w') : St w0 M w' (F e') := hs.rep (h.h e') ho ht.2.2.1 ht.2.1 ht.2.2.2
theorem CW_cut {X : Cx} {x y : Code} {Q : Exit → Fr → World → Prop} (I : Fr → World → Prop) (h1 : CW X P N x (thenF I Q) f w) (h2 : ∀ f w, I f w → CW X P N y Q f w) : CW X P N (.seq x y) Q f w := by
  refine CW_seq (fun K hK => CW_mono ?_ h1)
  intro e f w h
  cases e <;> first
    | exact hK _ _ (h2 _ _ h)
    | exact h
variable {X : Cx} {Q : Exit → Fr → World → Prop}
theorem listIn_append {F : Fence} {n : Nat} {ops : Array Oper} {Qa : Exit → Act → World → Prop} : ∀ (l m : List Oper) (a : Act) (w : World), wpListIn F n P ops (Exit.then (wpListIn F n P ops Qa m) Qa) l a w → wpListIn F n P ops Qa (l ++ m) a w
  | [], _, _, _, h => h
  | o :: l, m, a, w, h => by
    unfold wpListIn at h
    show wpListIn F n P ops Qa (o :: (l ++ m)) a w
    unfold wpListIn
    split
    · rename_i hw
      rw [if_pos hw] at h
      have h2 := Oper.wpIn_mono (K' := wpListIn F n P ops Qa (l ++ m)) (fun a w h => listIn_append l m a w h) h
      refine ⟨h2.1, ?_⟩
      have h3 := h2.2
      generalize (o.semAt F.round a.eval).run P w = r at h3 ⊢
      cases r with
      | ok nx w' => cases nx <;> exact h3
      | halt x w' => cases x <;> exact h3
    · rename_i hw
      rw [if_neg hw] at h
      exact ⟨h.1, listIn_append l m _ w h.2⟩
theorem op_mono {F : Fence} {n : Nat} {o : Oper} {a : Act} {w : World} {K K' : Act → World → Prop} {Q Q' : Exit → Act → World → Prop} (hK : ∀ a w, K a w → K' a w) (hQ : ∀ e a w, Q e a w → Q' e a w) (hh : o.wpIn F n P a w K Q) : o.wpIn F n P a w K' Q' := by
  refine ⟨hh.1, ?_⟩
  have h := hh.2
  have hl : LetsOut Q → LetsOut Q' := fun ⟨a, w, h⟩ => ⟨a, w, hQ _ _ _ h⟩
  generalize (o.semAt F.round a.eval).run P w = r at h ⊢
  cases r with
  | ok nx w' =>
    cases nx with
    | value v => exact hK _ _ h
    | skip => exact hK _ _ h
    | defer d => exact hK _ _ h
    | enter k args => exact ⟨h.1, CallsIn.mono h.2 (fun e w'' he => by cases e <;> first | exact hK _ _ he | exact hQ _ _ _ he | exact hl he)⟩
    | row k args => exact ⟨h.1, RowsIn.mono h.2 (fun _ _ he => hK _ _ he)⟩
    | round l f t a b => exact ⟨h.1, RoundIn.mono h.2 (fun e w'' he => by cases e <;> first | exact hK _ _ he | exact hQ _ _ _ he | exact hl he)⟩
    | _ => exact h
  | halt x w' => cases x <;> first | exact h | exact hQ _ _ _ h
theorem listIn_mono {F : Fence} {n : Nat} {ops : Array Oper} {Qa Qb : Exit → Act → World → Prop} (hQ : ∀ e a w, Qa e a w → Qb e a w) : ∀ (l : List Oper) (a : Act) (w : World), wpListIn F n P ops Qa l a w → wpListIn F n P ops Qb l a w
  | [], _, _, h => hQ _ _ _ h
  | o :: l, a, w, h => by
    unfold wpListIn at h ⊢
    split
    · rename_i hw
      rw [if_pos hw] at h
      exact op_mono (fun a w h => listIn_mono hQ l a w h) hQ h
    · rename_i hw
      rw [if_neg hw] at h
      exact ⟨h.1, listIn_mono hQ l _ w h.2⟩
/-- What a call of yield leaves. -/
def YOp (P : Program) (l : Nat) (v : Value) (w : World) (R : Value → World → Prop) : Prop := YieldAt Fence.wide 8 P l #[v] w fun en w' => ∃ u, en = .returned u ∧ R u w'
theorem YOp_mono {l : Nat} {v : Value} {R R' : Value → World → Prop} (h : YOp P l v w R) (hr : ∀ u w', R u w' → R' u w') : YOp P l v w R' := by
  obtain ⟨g1, g2, g3, g4, hy, hR⟩ := h
  exact ⟨g1, g2, g3, g4, hy, RoundIn.mono hR fun e w' ⟨u, h1, h2⟩ => ⟨u, h1, hr _ _ h2⟩⟩
theorem YOp_of {l : Nat} {v : Value} {R : Value → World → Prop} {R0 : Ending → World → Prop} (h : YieldAt Fence.wide 8 P l #[v] w R0) (hr : ∀ e w', R0 e w' → ∃ u, e = .returned u ∧ R u w') : YOp P l v w R := by
  obtain ⟨g1, g2, g3, g4, hy, hR⟩ := h
  exact ⟨g1, g2, g3, g4, hy, RoundIn.mono hR fun e w' h => hr _ _ h⟩
theorem CW_regionY (k : Nat) {id : Nat} {l : List Oper} {d : Nat} {T : TypeId} {p : String} {aft : Array Edge} {x y : Operand} {Ts : Array TypeId} (hk : l[k]? = some ⟨some d, .call ⟨.value x, #[y], Ts⟩, T, p, aft, none⟩) (hd : l.all ndf = true)
    (h : WL X0 P N l.toArray (onlyN fun f w => ∃ r, ev N f x = .func (.yield r) #[] #[] ∧ YOp P r (ev N f y) w fun u w' => WL X0 P N l.toArray Q (l.drop (k + 1)) (upd f d u) w') (l.take k) f w) : CW X0 P N (.region id l.toArray false) Q f w := by
  refine wpIn_region_lit ?_
  have hlt := (List.getElem?_eq_some_iff.1 hk).1
  have e : l.take k ++ (l[k]'hlt :: l.drop (k + 1)) = l := by simp
  have hk' : l[k]'hlt = _ := (List.getElem?_eq_some_iff.1 hk).2
  rw [hk'] at e
  have hq : wpListIn X0.F 9 P l.toArray (QA X0 N Q) (l.take k ++ (⟨some d, .call ⟨.value x, #[y], Ts⟩, T, p, aft, none⟩ :: l.drop (k + 1))) (FA X0 N f) w := by
    refine listIn_append _ _ _ _ ?_
    have hd1 : (l.take k).all ndf = true := List.all_eq_true.2 fun o ho => List.all_eq_true.1 hd o (List.mem_of_mem_take ho)
    have hd2 : (l.drop (k + 1)).all ndf = true := List.all_eq_true.2 fun o ho => List.all_eq_true.1 hd o (List.mem_of_mem_drop ho)
    have h1 := list_in X0 9 (Q := QA X0 N (onlyN _)) (fun _ _ h => h) (l.take k) _ _ hd1 h
    refine listIn_mono ?_ _ _ _ h1
    intro e a w hh
    cases e with
    | normal =>
      obtain ⟨f, rfl, r, hx, g1, g2, g3, g4, hy, hR⟩ := hh
      show wpListIn X0.F 9 P l.toArray (QA X0 N Q) (_ :: l.drop (k + 1)) (FA X0 N f) w
      unfold wpListIn
      rw [if_pos (by simp [Region.wanted])]
      refine ⟨fun _ _ => trivial, ?_⟩
      rw [Oper.semAt_eq _ _ _ (fun c hc => by cases hc)]
      have hex : (execOp (FA X0 N f).eval ⟨some d, .call ⟨.value x, #[y], Ts⟩, T, p, aft, none⟩).run P w = .ok (.round r g1 g2 g3 g4) w := by
        rw [FA_eval]
        simp [execOp, resolve, Deferred.ofValue, hx, invoke, hy]
      rw [hex]
      refine ⟨fun h => by simp [X0, Cx.F, Fence.wide] at h, ?_⟩
      refine RoundIn.mono (show RoundIn X0.F 8 P r g1 g2 g3 g4 w _ from hR) ?_
      rintro en w' ⟨u, rfl, hu⟩
      show wpListIn _ _ _ _ _ _ _ _
      have h3 := list_in X0 9 (Q := QA X0 N Q) (fun _ _ h => h) (l.drop (k + 1)) _ _ hd2 hu
      rw [FA_put]
      exact h3
    | ret => obtain ⟨_, _, h⟩ := hh; exact h.elim
    | exit id => obtain ⟨_, _, h⟩ := hh; exact h.elim
    | goto t => obtain ⟨_, _, h⟩ := hh; exact h.elim
    | panic c => exact hh.elim
    | outgrown => exact hh.elim
  rw [e] at hq
  exact hq
/-- An operation whose guard was itself passed over. -/
theorem WL_gx {X : Cx} {lo rest : List Oper} {Q : Exit → Fr → World → Prop} {d : Nat} {j : Nat} {want : Bool} {g : Nat} {op : Op} {T : TypeId} {p : String} {aft : Array Edge} (hg : (lo[j]?).bind (·.dst) = some g) (hN : g < N) (hb : ev N f (.tmp g) = undef)
    (hn : WL X P N lo.toArray Q rest (upd f d undef) w) : WL X P N lo.toArray Q (⟨some d, op, T, p, aft, some (j, want)⟩ :: rest) f w := by
  have hfg : f g = undef := by rw [ev_tmp, if_pos hN] at hb; exact hb
  unfold WL at *
  refine wpList_skip ?_ (by rw [FA_put]; exact hn)
  have hg' : (lo.toArray[j]?).bind (·.dst) = some g := by simpa using hg
  simp only [Region.wanted, yielded, hg', Option.bind_some, FA_get?, hN, hfg, if_true]
  rfl
theorem DW_sRh [hm : MixE P] {X : Cx} {Q : Exit → Fr → World → Prop} {ops : Array Oper} {id : Nat} {w0 : World} {M : List Nat} {H : List Ent} (hd : ops.all ndf = true) (hs : St w0 M w H) (last : Nat) (Hc : List Ent) (k : ∀ w', St w0 M w' H → Fm [] w w' → DW X P N ops Q last Hc ops.size [] f w') : CW X P N (.region id ops true) Q f w :=
  wpIn_region_any hm.h (any_in X 9 (fun _ _ h => h) hd _ _ _ _ (DA_any _ _ _ _ (k { w with drawn := w.drawn + 1 } (hs.dr _) ⟨rfl, rfl, rfl, Nat.le_refl _, fun _ _ _ => rfl⟩)))
end
end Go.Proofs.YtkbldndbofbkcaaGreatDoor
/- The engine, part L: pieces taken together. -/
namespace Go.Proofs.YtkbldndbofbkcaaGreatDoor
open Go Go.RowKit
/-- Pieces that are apart, as one. -/
def eL (H : List Ent) : Ent :=
  ⟨H.flatMap (·.fp), true, fun w => (∀ e ∈ H, e.holds w) ∧ List.Pairwise (fun x y : Ent => ∀ b : Nat, b ∈ x.fp → b ∉ y.fp) H,
    fun h k => ⟨fun e he => e.loc (fun b hb => h b (List.mem_flatMap.2 ⟨e, he, hb⟩)) (k.1 e he), k.2⟩,
    fun h b hb => by obtain ⟨e, he, hb⟩ := List.mem_flatMap.1 hb; exact e.lt (h.1 e he) b hb⟩
theorem eL_mem {H : List Ent} {b : Nat} : b ∈ (eL H).fp ↔ ∃ e ∈ H, b ∈ e.fp := List.mem_flatMap
class SubL (H' H : List Ent) : Prop where h : H'.Sublist H
instance SubL.nil {H : List Ent} : SubL [] H := ⟨List.nil_sublist _⟩
instance SubL.drop {H' H : List Ent} {x : Ent} [k : SubL H' H] : SubL H' (x :: H) := ⟨.cons _ k.h⟩
instance (priority := high) SubL.take {H' H : List Ent} {x : Ent} [k : SubL H' H] : SubL (x :: H') (x :: H) := ⟨.cons_cons _ k.h⟩
section
variable {w0 w w' : World} {M m : List Nat} {H H' : List Ent}
theorem St.wk (hs : St w0 M w H) [k : SubL H' H] : St w0 M w H' := hs.weak k.h
theorem St.pack (hs : St w0 M w H) (ho : ∀ e ∈ H, e.own = true) : St w0 M w [eL H] :=
  ⟨hs.fm, fun x hx => by simp at hx; subst hx; exact ⟨hs.has, hs.sep⟩, fun x hx _ b hb => by
    simp at hx; subst hx
    obtain ⟨e, he, hb⟩ := eL_mem.1 hb
    exact hs.own e he (ho e he) b hb, by simp⟩
theorem St.unpack (hs : St w0 M w [eL H]) : St w0 M w H := by
  obtain ⟨h1, h2⟩ := hs.has (eL H) (by simp)
  exact ⟨hs.fm, h1, fun x hx _ b hb => hs.own (eL H) (by simp) rfl b (eL_mem.2 ⟨x, hx, hb⟩), h2⟩
/-- A round begins: the caller's pieces, and the loop's record behind them. -/
theorem St.rnd {l : Nat} {o : Obj} (h : (eL H).holds w) (hl : l ∉ (eL H).fp) (ho : w.heap[l]? = some o) : St w (l :: (eL H).fp) w (H ++ [eB l true o]) := by
  obtain ⟨h1, h2⟩ := h
  refine ⟨.refl _ _, ?_, ?_, ?_⟩
  · intro x hx
    rcases List.mem_append.1 hx with hx | hx
    · exact h1 x hx
    · simp at hx; subst hx; exact ho
  · intro x hx _ b hb
    rcases List.mem_append.1 hx with hx | hx
    · exact .inr (List.mem_cons_of_mem _ (eL_mem.2 ⟨x, hx, hb⟩))
    · simp at hx; subst hx; simp [eB] at hb; subst hb; exact .inr List.mem_cons_self
  · refine List.pairwise_append.2 ⟨h2, by simp, fun x hx y hy b hb hq => ?_⟩
    simp at hy; subst hy; simp [eB] at hq; subst hq
    exact hl (eL_mem.2 ⟨x, hx, hb⟩)
/-- A round ends. -/
theorem St.rndEnd {l : Nat} {q : Bool} {o : Obj} (hs : St w0 (l :: m) w (H ++ [eB l q o])) (ho : ∀ e ∈ H, e.own = true) : w.heap[l]? = some o ∧ ∃ e', e' = eL H ∧ e'.own = true ∧ e'.holds w ∧ Fm (l :: m) w0 w ∧ ∀ b ∈ e'.fp, b ∈ m ∨ w0.heap.size ≤ b := by
  obtain ⟨p1, _, p3⟩ := List.pairwise_append.1 hs.sep
  refine ⟨hs.has (eB l q o) (by simp), _, rfl, rfl, ⟨fun e he => hs.has e (List.mem_append_left _ he), p1⟩, hs.fm, fun b hb => ?_⟩
  obtain ⟨e, he, hb⟩ := eL_mem.1 hb
  rcases hs.own e (List.mem_append_left _ he) (ho e he) b hb with h | h
  · exact .inr h
  · rcases List.mem_cons.1 h with rfl | h
    · exact absurd (by simp [eB]) (p3 e he (eB b q o) (by simp) b hb)
    · exact .inl h
end
section
variable {X : Cx} {P : Program} {N : Nat} {Q : Exit → Fr → World → Prop} {f : Fr} {w : World} {Hc : List Ent} {ops : Array Oper} {last n : Nat} {done : List Nat}
/-- Two operations may come now. -/
theorem DW_l2 (i j : Nat) {oi oj : Oper} (hi : ops[i]? = some oi) (hj : ops[j]? = some oj) (hr : Region.ready .any ops (Lm ops.size done) = [i, j])
    (h1 : WL X P N ops (onlyN fun f' w' => (i = last ∨ Hold Hc w') ∧ DW X P N ops Q last Hc n (i :: done) f' w') [oi] f w)
    (h2 : WL X P N ops (onlyN fun f' w' => (j = last ∨ Hold Hc w') ∧ DW X P N ops Q last Hc n (j :: done) f' w') [oj] f w) : DW X P N ops Q last Hc (n + 1) done f w := by
  refine ⟨fun h0 => absurd (hr ▸ h0) (by simp), fun k hk => ?_⟩
  rw [hr] at hk
  have key : ∀ (i : Nat) (oi : Oper), ops[i]? = some oi → WL X P N ops (onlyN fun f' w' => (i = last ∨ Hold Hc w') ∧ DW X P N ops Q last Hc n (i :: done) f' w') [oi] f w →
      wpOp P ops (QA X N Q) i (fun a' w' => (((Lm ops.size done).setIfInBounds i true).getD last false = true ∨ Hold Hc w') ∧ DA P ops (QA X N Q) last (Hold Hc) n ((Lm ops.size done).setIfInBounds i true) a' w') (FA X N f) w := by
    intro i oi hi h
    refine wpOp_mono ?_ (wpOp_of_WL hi h)
    rintro a' w' ⟨f', rfl, h1, h2⟩
    refine ⟨?_, h2⟩
    rcases h1 with h1 | h1
    · left
      have hlt : i < ops.size := (Array.getElem?_eq_some_iff.1 hi).1
      rw [← h1]
      simp [Array.getD, Lm_size, hlt]
    · exact .inr h1
  simp only [List.mem_cons, List.not_mem_nil, or_false] at hk
  rcases hk with rfl | rfl
  · exact key _ _ hi h1
  · exact key _ _ hj h2
end
end Go.Proofs.YtkbldndbofbkcaaGreatDoor
/- The engine, part M: maps. -/
namespace Go.Proofs.YtkbldndbofbkcaaGreatDoor
open Go Go.RowKit
/-- Of a type of keys that are structs: what the model asks. -/
structure KeyC (P : Program) (K : TypeId) {α : Type} [DecidableEq α] (enc : α → Value) : Prop where
  check : ∀ e a w, (Instr.checkKey e 10000 K (enc a)).run P w = .ok () w
  eq : ∀ a b w, (Op.equal K (enc a) (enc b)).run P w = .ok (decide (a = b)) w
  same : ∀ a, Instr.sameBits 10000 (enc a) (enc a) = true
  st : ∃ d, P.underlying K = some d ∧ ∀ x y, Instr.sameNow d (enc x) y = none
section
variable {α : Type} [DecidableEq α]
def mget : List (α × Value) → α → Option Value
  | [], _ => none
  | (a, v) :: l, k => if k = a then some v else mget l k
def mfind : List (α × Value) → α → Nat → Option (Nat × Value)
  | [], _, _ => none
  | (a, v) :: l, k, i => if k = a then some (i, v) else mfind l k (i + 1)
def mset : List (α × Value) → α → Value → List (α × Value)
  | [], k, u => [(k, u)]
  | (a, v) :: l, k, u => if k = a then (k, u) :: l else (a, v) :: mset l k u
theorem mget_find (l : List (α × Value)) (k : α) : ∀ i, mget l k = (mfind l k i).map (·.2) := by
  induction l with
  | nil => intro i; rfl
  | cons x l ih =>
    intro i
    obtain ⟨a, v⟩ := x
    simp only [mget, mfind]
    split
    · rfl
    · exact ih _
theorem mfind_ge (l : List (α × Value)) (k : α) : ∀ i j v, mfind l k i = some (j, v) → i ≤ j := by
  induction l with
  | nil => intro i j v h; cases h
  | cons x l ih =>
    intro i j v h
    obtain ⟨a, u⟩ := x
    simp only [mfind] at h
    split at h
    · injection h with h; injection h with h; omega
    · have := ih _ _ _ h; omega
theorem mget_mset (l : List (α × Value)) (k j : α) (u : Value) : mget (mset l k u) j = if j = k then some u else mget l j := by
  induction l with
  | nil => simp only [mset, mget]
  | cons x l ih =>
    obtain ⟨a, v⟩ := x
    by_cases h1 : k = a
    · subst h1
      simp only [mset, if_pos, mget]
      split <;> rfl
    · simp only [mset, if_neg h1, mget, ih]
      by_cases h2 : j = a
      · subst h2
        rw [if_pos rfl, if_pos rfl, if_neg (fun h => h1 h.symm)]
      · rw [if_neg h2, if_neg h2]
/-- What a map's block holds. -/
structure MapIs (enc : α → Value) (kvs : List (α × Value)) (es : Array MapEntry) (c : Nat) : Prop where
  kv : es.toList.map (fun e => (e.key, e.val)) = kvs.map (fun x => (enc x.1, x.2))
  nd : (es.toList.map (·.born)).Nodup
  lt : ∀ e ∈ es.toList, e.born < c
def eM (b : Nat) (enc : α → Value) (kvs : List (α × Value)) : Ent :=
  ⟨[b], true, fun w => ∃ es c, w.heap[b]? = some (.map es c) ∧ MapIs enc kvs es c, fun h ⟨es, c, k⟩ => ⟨es, c, (h b (by simp)).trans k.1, k.2⟩, fun h x hx => by obtain ⟨es, c, k⟩ := h; simp at hx; subst hx; exact heap_lt k.1⟩
class InM (b : Nat) (H : List Ent) (enc : outParam (α → Value)) (kvs : outParam (List (α × Value))) : Prop where h : eM b enc kvs ∈ H
instance InM.there {b : Nat} {H : List Ent} {enc : α → Value} {kvs : List (α × Value)} {x : Ent} [h : InM b H enc kvs] : InM b (x :: H) enc kvs := ⟨.tail _ h.h⟩
instance (priority := high) InM.here {b : Nat} {H : List Ent} {enc : α → Value} {kvs : List (α × Value)} : InM b (eM b enc kvs :: H) enc kvs := ⟨.head _⟩
class RpM (b : Nat) (H : List Ent) (enc : outParam (α → Value)) (kvs : outParam (List (α × Value))) (F : outParam (Ent → List Ent)) : Prop where h : ∀ e, Rep (eM b enc kvs) e H (F e)
instance RpM.there {b : Nat} {H : List Ent} {enc : α → Value} {kvs : List (α × Value)} {F : Ent → List Ent} {x : Ent} [h : RpM b H enc kvs F] : RpM b (x :: H) enc kvs (fun e => x :: F e) := ⟨fun e => .there (h.h e)⟩
instance (priority := high) RpM.here {b : Nat} {H : List Ent} {enc : α → Value} {kvs : List (α × Value)} : RpM b (eM b enc kvs :: H) enc kvs (fun e => e :: H) := ⟨fun _ => .here⟩
variable {P : Program} {K : TypeId} {enc : α → Value}
theorem run_findAsking (hk : KeyC P K enc) (k : α) (w : World) : ∀ (es : List MapEntry) (kvs : List (α × Value)) (i : Nat), es.map (fun e => (e.key, e.val)) = kvs.map (fun x => (enc x.1, x.2)) →
    (Instr.findAsking K (enc k) es i).run P w = .ok (mfind kvs k i) w := by
  intro es
  induction es with
  | nil => intro kvs i h; cases kvs with | nil => rfl | cons x kvs => simp at h
  | cons e es ih =>
    intro kvs i h
    cases kvs with
    | nil => simp at h
    | cons x kvs =>
      simp only [List.map_cons, List.cons.injEq, Prod.mk.injEq] at h
      obtain ⟨⟨h1, h2⟩, h3⟩ := h
      obtain ⟨a, v⟩ := x
      unfold Instr.findAsking
      simp only [Sem.run_bind, h1, hk.eq, Result.andThen_ok, mfind]
      by_cases hka : k = a
      · rw [if_pos (by simpa using hka), if_pos hka, h2]; rfl
      · rw [if_neg (by simpa using hka), if_neg hka]; exact ih kvs (i + 1) h3
theorem run_findKey (hk : KeyC P K enc) (k : α) (w : World) {es : List MapEntry} {kvs : List (α × Value)} (h : es.map (fun e => (e.key, e.val)) = kvs.map (fun x => (enc x.1, x.2))) :
    (Instr.findKey K (enc k) es).run P w = .ok (mfind kvs k 0) w := by
  obtain ⟨d, hd, hs⟩ := hk.st
  unfold Instr.findKey
  simp only [Sem.run_bind, run_underlying hd, Result.andThen_ok]
  cases es with
  | nil =>
    cases kvs with
    | nil => rfl
    | cons x kvs => simp at h
  | cons e es =>
    have : Instr.findNow d (enc k) (e :: es) 0 = none := by
      unfold Instr.findNow; rw [hs]
    rw [this]
    exact run_findAsking hk k w _ kvs 0 h
theorem map_modify (k : α) (u : Value) : ∀ (es : List MapEntry) (kvs : List (α × Value)) (o i : Nat) (v : Value), es.map (fun e => (e.key, e.val)) = kvs.map (fun x => (enc x.1, x.2)) → mfind kvs k o = some (o + i, v) →
    (es.modify i (fun e => { e with key := enc k, val := u })).map (fun e => (e.key, e.val)) = (mset kvs k u).map (fun x => (enc x.1, x.2)) ∧ (es[i]?).map (·.key) = some (enc k) := by
  intro es
  induction es with
  | nil => intro kvs o i v h hf; cases kvs with | nil => cases hf | cons x kvs => simp at h
  | cons e es ih =>
    intro kvs o i v h hf
    cases kvs with
    | nil => cases hf
    | cons x kvs =>
      obtain ⟨a, q⟩ := x
      simp only [List.map_cons, List.cons.injEq, Prod.mk.injEq] at h
      obtain ⟨⟨h1, h2⟩, h3⟩ := h
      simp only [mfind] at hf
      by_cases hka : k = a
      · rw [if_pos hka] at hf
        injection hf with hf; injection hf with hf
        have : i = 0 := by omega
        subst this
        subst hka
        simp [mset, h1, h3]
      · rw [if_neg hka] at hf
        have hge := mfind_ge _ _ _ _ _ hf
        obtain ⟨j, rfl⟩ : ∃ j, i = j + 1 := ⟨i - 1, by omega⟩
        have := ih kvs (o + 1) j v h3 (by rw [hf]; congr 2; omega)
        simp [mset, hka, h1, h2, this]
theorem mset_new (k : α) (u : Value) : ∀ (kvs : List (α × Value)) (o : Nat), mfind kvs k o = none → mset kvs k u = kvs ++ [(k, u)] := by
  intro kvs
  induction kvs with
  | nil => intro o _; rfl
  | cons x kvs ih =>
    intro o h
    obtain ⟨a, q⟩ := x
    simp only [mfind] at h
    split at h
    · cases h
    · rename_i hka
      simp only [mset, if_neg hka, ih _ h, List.cons_append]
end
theorem goMap {P : Program} {w : World} {r : Nat} {es : Array MapEntry} {c : Nat} (hb : w.heap[r]? = some (.map es c)) : (getObj r).run P w = .ok (.map es c) w := by
  simp [getObj, Sem.run, hb]
theorem soMap {P : Program} {w : World} {r : Nat} {es : Array MapEntry} {c : Nat} (o : Obj) (hb : w.heap[r]? = some (.map es c)) : (setObj r o).run P w = .ok () (w.putObj r o) := by
  simp [setObj, Sem.run, hb, World.putObj]
section
variable {X : Cx} {P : Program} {N : Nat} {Q : Exit → Fr → World → Prop} {f : Fr} {w w0 : World} {M : List Nat} {H : List Ent} {ops : Array Oper} {rest : List Oper}
variable {d b : Nat} {T A K E : TypeId} {p : String} {aft : Array Edge} {x y u : Operand} {v : Value} {α : Type} [DecidableEq α] {enc : α → Value} {kvs : List (α × Value)} {F : Ent → List Ent}
omit [DecidableEq α] in
theorem W_mkMap (hs : St w0 M w H) (enc : α → Value) (k : ∀ w' g, St w0 M w' (eM g enc ([] : List (α × Value)) :: H) → w.heap.size ≤ g → Fm [] w w' → WL X P N ops Q rest (upd f d (.map (some g))) w') :
    WL X P N ops Q (⟨some d, .makeMap A none, T, p, aft, none⟩ :: rest) f w := by
  refine WL_v (v := .map (some w.heap.size)) (w' := w.alloc (.map #[] 0)) ?_ (k _ _ (hs.callNew (fm_alloc _ _) ?_ (by intro b hb; simp [eM] at hb; omega)) (Nat.le_refl _) (fm_alloc _ _))
  · simp [Ex, execOp, Instr.makeMap, newObj, Sem.run]
  · exact ⟨#[], 0, World.alloc_heap_new w _, rfl, by simp, by simp⟩
theorem run_lookup {z : Value} [hA : UnE P A (.map K E)] [hz : ZrE P E z] (hk : KeyC P K enc) {k : α} (hh : (eM b enc kvs).holds w) :
    (Instr.lookup A (.map (some b)) (enc k) true).run P w = .ok (.tuple #[(mget kvs k).getD z, .bool (mget kvs k).isSome]) w := by
  obtain ⟨es, c, h1, h2, _, _⟩ := hh
  unfold Instr.lookup
  simp only [Sem.run_bind, run_underlying hA.h, Result.andThen_ok, goMap h1, Sem.run_pure, hk.check, run_findKey hk k w h2, mget_find kvs k 0]
  cases mfind kvs k 0 with
  | none => simp [hz.h]
  | some r => obtain ⟨i, q⟩ := r; simp
theorem X_lookup {z : Value} [hA : UnE P A (.map K E)] [hz : ZrE P E z] (hs : St w0 M w H) (hk : KeyC P K enc) {k : α} (hx : ev N f x = .map (some b)) (hy : ev N f y = enc k) [hm : InM b H enc kvs] :
    Ex P N f w ⟨some d, .lookup A x y true, T, p, aft, none⟩ (.tuple #[(mget kvs k).getD z, .bool (mget kvs k).isSome]) w := by
  simp [Ex, execOp, hx, hy, run_lookup hk (k := k) (hs.has _ hm.h)]
theorem W_mapUpd [hA : UnE P A (.map K E)] (hs : St w0 M w H) (hk : KeyC P K enc) {k : α} (hx : ev N f x = .map (some b)) (hy : ev N f y = enc k) (hu : ev N f u = v) [hr : RpM b H enc kvs F]
    (kk : ∀ w', St w0 M w' (F (eM b enc (mset kvs k v))) → Fm [b] w w' → WL X P N ops Q rest f w') : WL X P N ops Q (⟨none, .mapUpdate A x y u, T, p, aft, none⟩ :: rest) f w := by
  have hmem := (hr.h (eB 0 true (.map #[] 0))).mem
  obtain ⟨es, c, h1, h2, h3, h4⟩ := hs.has _ hmem
  have key : ∃ es' c', (Instr.mapUpdate A (.map (some b)) (enc k) v).run P w = .ok () (w.putObj b (.map es' c')) ∧ MapIs enc (mset kvs k v) es' c' := by
    unfold Instr.mapUpdate
    simp only [Sem.run_bind, run_underlying hA.h, Result.andThen_ok, goMap h1, hk.check, run_findKey hk k w h2]
    cases hf : mfind kvs k 0 with
    | none =>
      refine ⟨es.push { key := enc k, val := v, born := c }, c + 1, ?_, ?_, ?_, ?_⟩
      · simp only [soMap _ h1]
      · rw [mset_new k v kvs 0 hf]; simp [h2]
      · simp only [Array.toList_push, List.map_append, List.map_cons, List.map_nil]
        refine List.nodup_append.2 ⟨h3, by simp, ?_⟩
        intro a ha q hq
        simp at hq; subst hq
        obtain ⟨e, he, rfl⟩ := List.mem_map.1 ha
        have := h4 e he; omega
      · intro e he
        simp only [Array.toList_push, List.mem_append, List.mem_singleton] at he
        rcases he with he | rfl
        · have := h4 e he; omega
        · simp
    | some r =>
      obtain ⟨i, q⟩ := r
      obtain ⟨k1, k2⟩ := map_modify (enc := enc) k v es.toList kvs 0 i q h2 (by simpa using hf)
      have k3 : ((es[i]?).map (·.key)).getD (enc k) = enc k := by
        have : es[i]? = es.toList[i]? := by simp
        rw [this, k2]; rfl
      refine ⟨es.modify i (fun e => { e with key := enc k, val := v }), c, ?_, ?_, ?_, ?_⟩
      · simp only [k3, Instr.keyThatStays, hk.same, if_true]
        rw [Sem.run_bind, Sem.run_pure, Result.andThen_ok, soMap _ h1]
      · rw [Array.toList_modify]; exact k1
      · rw [Array.toList_modify]
        have : (es.toList.modify i (fun e => { e with key := enc k, val := v })).map (·.born) = es.toList.map (·.born) := by
          apply List.ext_getElem?
          intro j
          simp only [List.getElem?_map, List.getElem?_modify]
          cases es.toList[j]? with
          | none => rfl
          | some e0 => simp only [Option.map_some]; congr 1; split <;> rfl
        rw [this]; exact h3
      · intro e he
        rw [Array.toList_modify] at he
        obtain ⟨j, hj⟩ := List.mem_iff_getElem?.1 he
        rw [List.getElem?_modify] at hj
        cases hq : es.toList[j]? with
        | none => rw [hq] at hj; cases hj
        | some e0 =>
          rw [hq] at hj
          have h5 := h4 e0 (List.mem_iff_getElem?.2 ⟨j, hq⟩)
          replace hj : some (if i = j then ({ e0 with key := enc k, val := v } : MapEntry) else e0) = some e := hj
          by_cases hij : i = j
          · rw [if_pos hij] at hj; injection hj with hj; subst hj; exact h5
          · rw [if_neg hij] at hj; injection hj with hj; subst hj; exact h5
  obtain ⟨es', c', q1, q2⟩ := key
  refine WL_u (w' := w.putObj b (.map es' c')) ?_ (kk _ (hs.rep (hr.h _) rfl (fm_put w b _) ⟨es', c', World.putObj_heap_same (heap_lt h1), q2⟩ (fun z hz => .inl hz)) (fm_put w b _))
  simp [ExU, execOp, hx, hy, hu, q1]
end
end Go.Proofs.YtkbldndbofbkcaaGreatDoor
/- The engine, part N: ranges over strings. -/
namespace Go.Proofs.YtkbldndbofbkcaaGreatDoor
open Go Go.RowKit
section
variable {X : Cx} {P : Program} {N : Nat} {Q : Exit → Fr → World → Prop} {f : Fr} {w w0 : World} {M : List Nat} {H : List Ent} {ops : Array Oper} {rest : List Oper}
variable {d g : Nat} {T A : TypeId} {p : String} {aft : Array Edge} {x : Operand} {s : ByteArray} {pos : Nat} {F : Obj → List Ent}
theorem W_rangeS (hs : St w0 M w H) [hA : UnE P A .string] (hx : ev N f x = .string s) (k : ∀ w' g, St w0 M w' (eB g true (.stringIter s 0) :: H) → w.heap.size ≤ g → Fm [] w w' → WL X P N ops Q rest (upd f d (.pointer (some ⟨g, 0, none⟩))) w') :
    WL X P N ops Q (⟨some d, .range A x, T, p, aft, none⟩ :: rest) f w := by
  refine WL_v (v := .pointer (some ⟨w.heap.size, 0, none⟩)) (w' := w.alloc (.stringIter s 0)) ?_ (k _ _ (hs.new _) (Nat.le_refl _) (fm_alloc _ _))
  simp [Ex, execOp, Instr.range, hx, run_underlying hA.h, newObj, Sem.run]
theorem W_nextS (hs : St w0 M w H) (hx : ev N f x = .pointer (some ⟨g, 0, none⟩)) [hr : RpB g H (.stringIter s pos) F]
    (K : ∀ w', St w0 M w' (F (.stringIter s (if pos < s.size then pos + (Utf8.decode s pos).2 else pos))) → WL X P N ops Q rest (upd f d (.tuple (.bool (decide (pos < s.size)) :: if pos < s.size then [.int .i64 pos, .int .i32 ((Utf8.decode s pos).1 : Nat)] else []).toArray)) w') :
    WL X P N ops Q (⟨some d, .next x true, T, p, aft, none⟩ :: rest) f w := by
  have hb := hs.get (hr.h (.map #[] 0)).mem
  have hgo' : (getObj g).run P w = .ok (.stringIter s pos) w := by simp [getObj, Sem.run, hb]
  rcases Nat.lt_or_ge pos s.size with h | h
  · have hK := K (w.putObj g (.stringIter s (pos + (Utf8.decode s pos).2))) (by rw [if_pos h]; exact hs.rep (hr.h _) rfl (fm_put w g _) (World.putObj_heap_same (heap_lt hb)) (fun z hz => .inl hz))
    refine WL_v (w' := w.putObj g (.stringIter s (pos + (Utf8.decode s pos).2))) ?_ hK
    have hset : (setObj g (.stringIter s (pos + (Utf8.decode s pos).2))).run P w = .ok () (w.putObj g (.stringIter s (pos + (Utf8.decode s pos).2))) := by simp [setObj, Sem.run, hb, World.putObj]
    simp [Ex, execOp, Instr.next, hx, hgo', h, hset, goInt]
  · have hn : ¬ pos < s.size := by omega
    have hK := K w (by rw [if_neg hn]; exact hs.rep (hr.h _) rfl (Fm.refl _ _) hb (fun z hz => .inl hz))
    refine WL_v (w' := w) ?_ hK
    simp [Ex, execOp, Instr.next, hx, hgo', hn]
theorem equalIn_b (n : Nat) {A : TypeId} {a b : Bool} {P : Program} {w : World} (hA : P.underlying A = some .bool) : (Op.equalIn (n + 1) A (.bool a) (.bool b)).run P w = .ok (a == b) w := by
  simp [Op.equalIn, run_underlying hA]
theorem equal_b {A : TypeId} {a b : Bool} {P : Program} {w : World} (hA : P.underlying A = some .bool) : (Op.equal A (.bool a) (.bool b)).run P w = .ok (a == b) w := equalIn_b 9999 hA
theorem X_eqB {A B : TypeId} {y : Operand} {a b : Bool} [hA : UnE P A .bool] (hx : ev N f x = .bool a) (hy : ev N f y = .bool b) : Ex P N f w ⟨some d, .binOp .eql A x y B, T, p, aft, none⟩ (.bool (a == b)) w := by
  simp [Ex, execOp, hx, hy, eqGuard, binOp, equal_b hA.h]
theorem X_neB {A B : TypeId} {y : Operand} {a b : Bool} [hA : UnE P A .bool] (hx : ev N f x = .bool a) (hy : ev N f y = .bool b) : Ex P N f w ⟨some d, .binOp .neq A x y B, T, p, aft, none⟩ (.bool (a != b)) w := by
  simp [Ex, execOp, hx, hy, eqGuard, binOp, equal_b hA.h, bne]
theorem X_eqTrue {A B : TypeId} {y : Operand} {a : Bool} [hA : UnE P A .bool] (hx : ev N f x = .bool a) (hy : ev N f y = .bool true) : Ex P N f w ⟨some d, .binOp .eql A x y B, T, p, aft, none⟩ (.bool a) w := by
  have := X_eqB (P := P) (w := w) (d := d) (T := T) (p := p) (aft := aft) (A := A) (B := B) hx hy
  simpa using this
end
/-- The first byte decides where it is ASCII; else the rune is none. -/
theorem decode_lo {s : ByteArray} {i : Nat} (h : (s.get! i).toNat < 128) : Utf8.decode s i = ((s.get! i).toNat, 1) := by
  unfold Utf8.decode
  simp [h]
theorem decode_hi {s : ByteArray} {i : Nat} (h : 128 ≤ (s.get! i).toNat) : 128 ≤ (Utf8.decode s i).1 ∧ (Utf8.decode s i).1 < 2097152 + 65536 ∧ 1 ≤ (Utf8.decode s i).2 := by
  have hl := (s.get! i).toNat_lt
  unfold Utf8.decode Utf8.runeError
  dsimp only
  simp only [Nat.add_zero]
  rw [if_neg (by omega)]
  split
  · split
    · rename_i h2; simp only []; omega
    · simp
  · split
    · split
      · rename_i h2; simp only [Bool.and_eq_true, decide_eq_true_eq] at h2 ⊢; omega
      · simp
    · split
      · split
        · rename_i h2; simp only [Bool.and_eq_true, decide_eq_true_eq] at h2 ⊢; omega
        · simp
      · simp
end Go.Proofs.YtkbldndbofbkcaaGreatDoor
/- The engine, part O: copy, clear, append in place, append of zeros, overlaps; for elements of one cell. -/
namespace Go.Proofs.YtkbldndbofbkcaaGreatDoor
open Go Go.RowKit
/-- Values written over a row from a place on. -/
def wrt (l : List Value) (o : Nat) (vs : List Value) : List Value := l.take o ++ vs ++ l.drop (o + vs.length)
theorem wrt_length {l vs : List Value} {o : Nat} (h : o + vs.length ≤ l.length) : (wrt l o vs).length = l.length := by
  unfold wrt; simp; omega
theorem spl_wrt {l vs : List Value} {o : Nat} (h : o + vs.length ≤ l.length) : spl l o vs = wrt l o vs := by
  have h1 := spl_at vs (l.take o) (l.drop o) (by simp; omega)
  rw [List.take_append_drop, List.length_take, Nat.min_eq_left (by omega)] at h1
  rw [h1, List.drop_drop]; rfl
theorem wrt_get {l vs : List Value} {o : Nat} (h : o + vs.length ≤ l.length) (j : Nat) : (wrt l o vs)[j]? = if j < o then l[j]? else if j < o + vs.length then vs[j - o]? else l[j]? := by
  unfold wrt
  rw [List.getElem?_append, List.getElem?_append]
  simp only [List.length_append, List.length_take, Nat.min_eq_left (show o ≤ l.length by omega)]
  by_cases h1 : j < o
  · rw [if_pos (by omega), if_pos h1, if_pos h1, List.getElem?_take, if_pos h1]
  · rw [if_neg h1]
    by_cases h2 : j < o + vs.length
    · rw [if_pos h2, if_neg h1, if_pos h2]
    · rw [if_neg h2, if_neg h1, if_neg h2, List.getElem?_drop]
      congr 1; omega
section
variable {X : Cx} {P : Program} {N : Nat} {Q : Exit → Fr → World → Prop} {f : Fr} {w w0 : World} {M : List Nat} {H : List Ent} {ops : Array Oper} {rest : List Oper}
variable {d g o n m : Nat} {T A B E T' : TypeId} {p : String} {aft : Array Edge} {x y z u : Operand} {F : Obj → List Ent} {l ys : List Value} {k k' k'' : IntKind}
/-- An operation that yields a value that nobody keeps. -/
theorem WL_vn {op : Op} {v : Value} {w' : World} (h : (execOp (ev N f) ⟨none, op, T, p, aft, none⟩).run P w = .ok (.value v) w') (kk : WL X P N ops Q rest f w') : WL X P N ops Q (⟨none, op, T, p, aft, none⟩ :: rest) f w := by
  unfold WL
  refine wpList_plain rfl fun K hK => ?_
  unfold Oper.wp
  rw [FA_eval, h, Oper.upon_value, FA_put_none]
  exact hK _ _ kk
theorem run_wrt {b off : Nat} {vs : List Value} (hb : w.heap[b]? = some (Blk T' l)) (hl : off + vs.length ≤ l.length) (h1 : ∀ u ∈ vs, u.oneCell' = true) :
    ∃ w', (storeCells ⟨b, off, none⟩ vs).run P w = .ok () w' ∧ Fm [b] w w' ∧ w'.heap[b]? = some (Blk T' (wrt l off vs)) := by
  obtain ⟨w', h2, h3, h4, _⟩ := run_storeCells_spl (P := P) (off := off) vs l 0 w hb (by omega) h1
  rw [Nat.add_zero, spl_wrt hl] at h4
  exact ⟨w', h2, h3, h4⟩
theorem run_first {a : Option Addr} {c n : Nat} (hr : Rd w a m 1 ys) (hn : n ≤ m) : (Builtin.firstCells 1 n (.slice a m c)).run P w = .ok (ys.take n).toArray w := by
  have hl : ys.length = m := by simpa using hr.1
  cases a with
  | none =>
    have : ys = [] := by
      by_cases h : ys = []
      · exact h
      · obtain ⟨_, _, h1, _⟩ := hr.2 h; cases h1
    subst this
    simp [Builtin.firstCells]
  | some ad =>
    have h := run_loadCells_list (P := P) w ad (ys.take n) (fun j v hj => by
      have hj2 : ys[j]? = some v := by
        rw [List.getElem?_take] at hj
        split at hj
        · exact hj
        · cases hj
      obtain ⟨b, off, e, hc⟩ := hr.2 (by intro hq; rw [hq] at hj2; simp at hj2)
      injection e with e
      subst e
      rw [addr_add]; exact hc j v hj2)
    rw [List.length_take, hl, Nat.min_eq_left hn] at h
    simp [Builtin.firstCells, h]
theorem W_copy {dLen dCap c' : Nat} {a' : Option Addr} (hs : St w0 M w H) [hA : UnE P A (.slice E)] [hn : SzE P E 1] (hx : ev N f x = .slice (some ⟨g, o, none⟩) dLen dCap) (hy : ev N f y = .slice a' m c') (hr : Rd w a' m 1 ys)
    [hrp : RpB g H (.cells l.toArray T' (0, 0)) F] (h1 : ∀ u ∈ ys.take (min m dLen), u.oneCell' = true) (hfit : o + min m dLen ≤ l.length)
    (K : ∀ w', St w0 M w' (F (Blk T' (wrt l o (ys.take (min m dLen))))) → Fm [g] w w' → WL X P N ops Q rest (upd f d (.int .i64 (min m dLen : Nat))) w') :
    WL X P N ops Q (⟨some d, .call ⟨.builtin .copy, #[x, y], #[A, B]⟩, T, p, aft, none⟩ :: rest) f w := by
  have hl : ys.length = m := by simpa using hr.1
  have hlen : (ys.take (min m dLen)).length = min m dLen := by rw [List.length_take, hl]; omega
  have hb := hs.get (hrp.h (.map #[] 0)).mem
  obtain ⟨w', h2, h3, h4⟩ := run_wrt (P := P) (off := o) (vs := ys.take (min m dLen)) hb (by omega) h1
  refine WL_v (w' := w') ?_ (K w' (hs.rep (hrp.h _) rfl h3 h4 (fun z hz => .inl hz)) h3)
  have hf := run_first (P := P) (c := c') hr (Nat.min_le_left m dLen)
  have hmin : Nat.min m dLen = min m dLen := rfl
  simp [Ex, execOp, resolve, invoke, builtin, hx, hy, Builtin.copy_, run_underlying hA.h, Builtin.lenOf, hn.h, hmin, hf, h2, goInt]
theorem W_appIn {cap c' : Nat} {a' : Option Addr} (hs : St w0 M w H) [hA : UnE P A (.slice E)] [hn : SzE P E 1] (hx : ev N f x = .slice (some ⟨g, 0, none⟩) n cap) (hy : ev N f y = .slice a' m c') (hr : Rd w a' m 1 ys)
    [hrp : RpB g H (.cells l.toArray T' (0, 0)) F] (h1 : ∀ u ∈ ys, u.oneCell' = true) (hroom : n + m ≤ cap) (hfit : n + m ≤ l.length)
    (K : ∀ w', St w0 M w' (F (Blk T' (wrt l n ys))) → Fm [g] w w' → WL X P N ops Q rest (upd f d (.slice (some ⟨g, 0, none⟩) (n + m) cap)) w') :
    WL X P N ops Q (⟨some d, .call ⟨.builtin .append, #[x, y], #[A, A]⟩, T, p, aft, none⟩ :: rest) f w := by
  have hl : ys.length = m := by simpa using hr.1
  have hb := hs.get (hrp.h (.map #[] 0)).mem
  obtain ⟨w', h2, h3, h4⟩ := run_wrt (P := P) (off := n) (vs := ys) hb (by omega) h1
  refine WL_v (w' := w') ?_ (K w' (hs.rep (hrp.h _) rfl h3 h4 (fun z hz => .inl hz)) h3)
  have hf := run_first (P := P) (c := c') hr (Nat.le_refl m)
  rw [List.take_of_length_le (by omega)] at hf
  simp [Ex, execOp, resolve, invoke, builtin, hx, hy, Builtin.append_, run_underlying hA.h, Builtin.lenOf, hn.h, hroom, hf, addr_add, h2]
theorem W_clear {c : Nat} {zv : Value} (hs : St w0 M w H) [hA : UnE P A (.slice E)] [hz : ZlE P E [zv]] (h1 : zv.oneCell' = true) (hx : ev N f x = .slice (some ⟨g, o, none⟩) n c) [hrp : RpB g H (.cells l.toArray T' (0, 0)) F] (hfit : o + n ≤ l.length)
    (K : ∀ w', St w0 M w' (F (Blk T' (wrt l o (List.replicate n zv)))) → Fm [g] w w' → WL X P N ops Q rest f w') :
    WL X P N ops Q (⟨none, .call ⟨.builtin .clear, #[x], #[A]⟩, T, p, aft, none⟩ :: rest) f w := by
  obtain ⟨z, hz1, hz2⟩ := hz.h
  have hb := hs.get (hrp.h (.map #[] 0)).mem
  obtain ⟨w', h2, h3, h4⟩ := run_wrt (P := P) (off := o) (vs := List.replicate n zv) hb (by simpa using hfit) (fun u hu => by rw [(List.mem_replicate.1 hu).2]; exact h1)
  have hzc : (Builtin.zeroCells z.cells n).toList = List.replicate n zv := by
    rw [hz2]
    simp [Builtin.zeroCells]
    apply List.ext_getElem
    · simp
    · intro i q1 q2
      simp [Nat.mod_one]
  cases n with
  | zero =>
    have e : wrt l o (List.replicate 0 zv) = l := by unfold wrt; simp
    refine WL_vn (v := .tuple #[]) (w' := w) ?_ (K w (by rw [e]; exact hs.rep (hrp.h _) rfl (Fm.refl _ _) hb (fun z hz => .inl hz)) (Fm.refl _ _))
    simp [execOp, resolve, invoke, builtin, hx, Builtin.clear_, run_underlying hA.h]
  | succ n =>
    refine WL_vn (v := .tuple #[]) (w' := w') ?_ (K w' (hs.rep (hrp.h _) rfl h3 h4 (fun z hz => .inl hz)) h3)
    simp [execOp, resolve, invoke, builtin, hx, Builtin.clear_, run_underlying hA.h, hz1, hzc, h2]
/-- append(s, make(.., k)...) where there is no room. -/
theorem W_appZ {cap kz bytes : Nat} {a : Option Addr} {zv : Value} (hs : St w0 M w H) [hA : UnE P A (.slice E)] [hB : UnE P B (.int k)] [he : ElE P E [zv] 1 bytes] (hx : ev N f x = .slice a n cap) (hy : ev N f y = .int k' kz) (hr : Rd w a n 1 ys)
    (h0 : 0 < kz) (hg : cap < n + kz) (hb : (n + kz) * bytes ≤ 140737488355328) (h63 : n + kz ≤ 9223372036854775807)
    (K : ∀ w' g' r, St w0 M w' (eB g' true (Blk E (ys ++ List.replicate (kz + r) zv)) :: H) → w.heap.size ≤ g' → n + kz + r ≤ 9223372036854775807 → WL X P N ops Q rest (upd f d (.slice (some ⟨g', 0, none⟩) (n + kz) (n + kz + r))) w') :
    WL X P N ops Q (⟨some d, .call ⟨.builtin .append, #[x, y], #[A, B]⟩, T, p, aft, none⟩ :: rest) f w := by
  obtain ⟨i, z, e1, e2, e3, e4, e5⟩ := he.h
  have hrd : Rd w.drew a n 1 ys := hr.fm ⟨rfl, rfl, rfl, Nat.le_refl _, fun _ _ _ => rfl⟩
  have hold := run_first (P := P) (c := cap) hrd (Nat.le_refl n)
  have hl : ys.length = n := by simpa using hr.1
  rw [List.take_of_length_le (by omega)] at hold
  have hfit := growslice_fits (bytes := bytes) hg hb
  have hkb : kz * bytes ≤ (n + kz) * bytes := Nat.mul_le_mul_right _ (by omega)
  have hrun := Lib.run_append_grow_zeros (P := P) w A B T E i z k' k hA.h hB.h e1 e2 a n cap ys (by rw [e4]; exact hold) kz h0 (by rw [e4]; omega) hg (by omega) (by rw [e5]; omega) (by rw [e5]; exact hfit)
  have hge := grownCap_ge w (n + kz) cap E
  obtain ⟨r, hrr⟩ : ∃ r, grownCap w (n + kz) cap E = n + kz + r := ⟨_, (Nat.add_sub_cancel' hge).symm⟩
  rw [hrr] at hrun
  have hzc : ∀ q, (Builtin.zeroCells z.cells q) = (List.replicate q zv).toArray := by
    intro q
    rw [e3]
    apply Array.ext'
    simp [Builtin.zeroCells]
    apply List.ext_getElem
    · simp
    · intro i q1 q2
      simp [Nat.mod_one]
  have hobj : (Obj.cells (ys.toArray ++ Builtin.zeroCells z.cells kz ++ Builtin.zeroCells z.cells (n + kz + r - (n + kz))) E) = Blk E (ys ++ List.replicate (kz + r) zv) := by
    rw [hzc, hzc, Nat.add_sub_cancel_left, ← List.replicate_append_replicate]
    simp [Blk]
  rw [hobj] at hrun
  refine WL_v (v := .slice (some ⟨w.heap.size, 0, none⟩) (n + kz) (n + kz + r)) (w' := w.drew.alloc (Blk E (ys ++ List.replicate (kz + r) zv))) ?_ (K _ _ r ((hs.dr (w.drawn + 1)).new _) (Nat.le_refl _) (by have := grownCap_le_maxLen w (n + kz) cap E (by unfold maxLen; omega); unfold maxLen at this; omega))
  simp [Ex, execOp, resolve, invoke, builtin, hx, hy, hrun]
/-! ### slices of one-cell elements -/
theorem X_sl1 {b off len cap lo : Nat} [hA : UnE P A (.slice E)] [hn : SzE P E 1] (hx : ev N f x = .slice (some ⟨b, off, none⟩) len cap) (hy : ev N f y = .int k (lo : Nat)) (h : lo ≤ len) (hc : lo < cap) :
    Ex P N f w ⟨some d, .slice A x (some y) none none, T, p, aft, none⟩ (.slice (some ⟨b, off + lo, none⟩) (len - lo) (cap - lo)) w := by
  have := X_slice_l (P := P) (w := w) (d := d) (T := T) (p := p) (aft := aft) (A := A) (E := E) (n := 1) hx hy (by omega) (by omega)
  rw [sla_lt (by omega)] at this
  simpa using this
theorem X_sl1' {b off len cap lo : Nat} [hA : UnE P A (.slice E)] [hn : SzE P E 1] (hx : ev N f x = .slice (some ⟨b, off, none⟩) len cap) (hy : ev N f y = .int k (lo : Nat)) (h : lo ≤ len) :
    Ex P N f w ⟨some d, .slice A x (some y) none none, T, p, aft, none⟩ (.slice (some ⟨b, if cap = lo then off else off + lo, none⟩) (len - lo) (cap - lo)) w := by
  have := X_slice_l (P := P) (w := w) (d := d) (T := T) (p := p) (aft := aft) (A := A) (E := E) (n := 1) hx hy (by omega) (by omega)
  unfold sla at this
  simpa using this
theorem X_sh1 {b off len cap hi : Nat} [hA : UnE P A (.slice E)] [hn : SzE P E 1] (hx : ev N f x = .slice (some ⟨b, off, none⟩) len cap) (hy : ev N f y = .int k (hi : Nat)) (h : hi ≤ cap) :
    Ex P N f w ⟨some d, .slice A x none (some y) none, T, p, aft, none⟩ (.slice (some ⟨b, off, none⟩) hi cap) w := by
  have := X_slice_h (P := P) (w := w) (d := d) (T := T) (p := p) (aft := aft) (A := A) (E := E) (n := 1) hx hy (by omega) (by omega)
  simpa using this
theorem X_slh1 {b off len cap lo hi : Nat} [hA : UnE P A (.slice E)] [hn : SzE P E 1] (hx : ev N f x = .slice (some ⟨b, off, none⟩) len cap) (hy : ev N f y = .int k (lo : Nat)) (hz : ev N f z = .int k' (hi : Nat)) (h : lo ≤ hi) (h2 : hi ≤ cap) :
    Ex P N f w ⟨some d, .slice A x (some y) (some z) none, T, p, aft, none⟩ (.slice (some ⟨b, if cap = lo then off else off + lo, none⟩) (hi - lo) (cap - lo)) w := by
  have := X_slice_lh (P := P) (w := w) (d := d) (T := T) (p := p) (aft := aft) (A := A) (E := E) (n := 1) hx hy hz (by omega) (by omega) (by omega)
  unfold sla at this
  simpa using this
/-- What is sliced only to see whether it can be. -/
theorem slAny {a : Option Addr} {len cap lo : Nat} [hA : UnE P A (.slice E)] [hn : SzE P E 1] (hx : ev N f x = .slice a len cap) (hy : ev N f y = .int k (lo : Nat)) (h : lo ≤ len) (K : ∀ v, WL X P N ops Q rest (upd f d v) w) :
    WL X P N ops Q (⟨some d, .slice A x (some y) none none, T, p, aft, none⟩ :: rest) f w := by
  have hb : (Instr.sliceBounds true len cap (some (.int k (lo : Nat))) none none).run P w = .ok (lo, len, cap) w := by
    simp [Instr.sliceBounds, Instr.sliceBound, asIntOf, h]
  refine WL_v (v := .slice (if cap = lo then a else a.map (·.add (lo * 1))) (len - lo) (cap - lo)) (w' := w) ?_ (K _)
  simp [Ex, execOp, hx, hy, Instr.sliceAt, Instr.slice, run_underlying hA.h, hb, hn.h]
theorem slAny3 {a : Option Addr} {len cap lo hi mx : Nat} [hA : UnE P A (.slice E)] [hn : SzE P E 1] (hx : ev N f x = .slice a len cap) (hy : ev N f y = .int k (lo : Nat)) (hz : ev N f z = .int k' (hi : Nat)) (hu : ev N f u = .int k'' (mx : Nat)) (h : lo ≤ hi) (h2 : hi ≤ mx) (h3 : mx ≤ cap) (K : ∀ v, WL X P N ops Q rest (upd f d v) w) :
    WL X P N ops Q (⟨some d, .slice A x (some y) (some z) (some u), T, p, aft, none⟩ :: rest) f w := by
  have hb : (Instr.sliceBounds true len cap (some (.int k (lo : Nat))) (some (.int k' (hi : Nat))) (some (.int k'' (mx : Nat)))).run P w = .ok (lo, hi, mx) w := by
    simp [Instr.sliceBounds, Instr.sliceBound, asIntOf, h, h2, h3]
  refine WL_v (v := .slice (if mx = lo then a else a.map (·.add (lo * 1))) (hi - lo) (mx - lo)) (w' := w) ?_ (K _)
  simp [Ex, execOp, hx, hy, hz, hu, Instr.sliceAt, Instr.slice, run_underlying hA.h, hb, hn.h]
end
/-- slices.overlaps at two rows of their own. -/
theorem run_ovl {P : Program} {f : FuncId} {fn : Func} {A R E : TypeId} [hA : UnE P A (.slice E)] [hn : SzE P E 1] (hf : P.funcs[f]? = some fn) (hname : (fn.name == "runtime.NumGoroutine") = false)
    (hb : fn.body.isNone = true) (hnx : Extern.findNext fn = none) (he : Extern.find fn = some (Extern.SlicesOverlaps.overlaps #[A, A] #[R])) {w : World} {g g' o o' la ca lb cb : Nat} {l l' : List Value} {T T' : TypeId}
    (h1 : w.heap[g]? = some (Blk T l)) (h2 : w.heap[g']? = some (Blk T' l')) (hne : g ≠ g') (hl : l'.length ≠ 0) :
    (callFunc f #[.slice (some ⟨g, o, none⟩) la ca, .slice (some ⟨g', o', none⟩) lb cb]).run P w = .ok (.value (.bool false)) w := by
  rw [run_callFunc_extern hf hname hb hnx he, Lib.run_overlaps_apart w A R E hA.h 1 hn.h ⟨g, o, none⟩ ⟨g', o', none⟩ la ca lb cb hne T T' l.length l'.length (by simp [World.shape?, h1]) (by simp [World.shape?, h2]) hl (by simp [World.frozen?, h1]) (by simp [World.frozen?, h1])]
  rfl
/-! ### lists -/
theorem ins_shift (l : List Value) (i n : Nat) (v : Value) (hi : i < n) (hn : n + 1 ≤ l.length) : (wrt (wrt l (i + 1) ((l.drop i).take (n - i))) i [v]).take (n + 1) = (l.take n).take i ++ v :: (l.take n).drop i := by
  have hl1 : ((l.drop i).take (n - i)).length = n - i := by simp; omega
  have h1 : i + 1 + ((l.drop i).take (n - i)).length ≤ l.length := by omega
  apply List.ext_getElem?
  intro j
  rw [List.getElem?_take, wrt_get (by rw [wrt_length h1]; simp; omega), wrt_get h1, hl1]
  simp only [List.length_singleton, List.getElem?_append, List.length_take, List.getElem?_take, List.getElem?_drop]
  have hm : min i (min n l.length) = i := by omega
  rw [hm]
  by_cases a1 : j < n + 1
  · rw [if_pos a1]
    by_cases a2 : j < i
    · rw [if_pos a2, if_pos (by omega), if_pos a2, if_pos a2, if_pos (by omega)]
    · rw [if_neg a2, if_neg a2]
      by_cases a3 : j = i
      · subst a3; simp
      · obtain ⟨q, hq⟩ : ∃ q, j = i + q + 1 := ⟨j - i - 1, by omega⟩
        subst hq
        have e1 : i + q + 1 - i = q + 1 := by omega
        have e2 : i + q + 1 - (i + 1) = q := by omega
        rw [if_neg (by omega), if_neg (by omega), if_pos (by omega), e1, e2, if_pos (by omega)]
        simp only [List.getElem?_cons_succ, List.getElem?_drop, List.getElem?_take]
        rw [if_pos (by omega)]
  · rw [if_neg a1, if_neg (by omega)]
    obtain ⟨q, hq⟩ : ∃ q, j = i + q + 1 := ⟨j - i - 1, by omega⟩
    subst hq
    have e1 : i + q + 1 - i = q + 1 := by omega
    rw [e1]
    simp only [List.getElem?_cons_succ, List.getElem?_drop, List.getElem?_take]
    rw [if_neg (by omega)]
theorem ins_grow (xs zs : List Value) (i n : Nat) (v : Value) (hx : xs.length = n) (hi : i < n) (hz : n + 1 - i ≤ zs.length) : (wrt (wrt (xs.take i ++ zs) i [v]) (i + 1) (xs.drop i)).take (n + 1) = xs.take i ++ v :: xs.drop i := by
  have hl : (xs.take i ++ zs).length = i + zs.length := by simp; omega
  have h1 : i + ([v] : List Value).length ≤ (xs.take i ++ zs).length := by simp; omega
  apply List.ext_getElem?
  intro j
  rw [List.getElem?_take, wrt_get (by rw [wrt_length h1, hl]; simp; omega), wrt_get h1]
  simp only [List.length_singleton, List.getElem?_append, List.length_take, List.getElem?_take, List.getElem?_drop, List.length_drop]
  have hm : min i xs.length = i := by omega
  rw [hm]
  by_cases a1 : j < n + 1
  · rw [if_pos a1]
    by_cases a2 : j < i
    · rw [if_pos (by omega), if_pos a2, if_pos a2, if_pos a2]
      simp [a2]
    · by_cases a3 : j = i
      · subst a3; simp
      · obtain ⟨q, hq⟩ : ∃ q, j = i + q + 1 := ⟨j - i - 1, by omega⟩
        subst hq
        have e1 : i + q + 1 - i = q + 1 := by omega
        have e2 : i + q + 1 - (i + 1) = q := by omega
        rw [if_neg (by omega), if_pos (by omega), if_neg (by omega), e1, e2]
        simp
  · rw [if_neg a1, if_neg (by omega)]
    obtain ⟨q, hq⟩ : ∃ q, j = i + q + 1 := ⟨j - i - 1, by omega⟩
    subst hq
    have e1 : i + q + 1 - i = q + 1 := by omega
    rw [e1]
    simp only [List.getElem?_cons_succ, List.getElem?_drop]
    rw [List.getElem?_eq_none (by omega)]
end Go.Proofs.YtkbldndbofbkcaaGreatDoor
/- The engine, part P: slices that are only read, as a piece. -/
namespace Go.Proofs.YtkbldndbofbkcaaGreatDoor
open Go Go.RowKit
/-- A slice of one-cell elements: where it lies, its length, its cells. -/
abbrev Sl := Option Addr × Nat × List Value
def slB : Option Addr → List Nat
  | some ⟨b, _, _⟩ => [b]
  | none => []
def slFp (p : Sl) : List Nat := if p.2.2 = [] then [] else slB p.1
theorem Rd.loc {w w' : World} {a : Option Addr} {n : Nat} {xs : List Value} (hf : ∀ b ∈ slFp (a, n, xs), w'.heap[b]? = w.heap[b]?) (h : Rd w a n 1 xs) : Rd w' a n 1 xs := by
  refine ⟨h.1, fun hn => ?_⟩
  obtain ⟨b, off, e, hc⟩ := h.2 hn
  refine ⟨b, off, e, fun j u hj => ?_⟩
  have hb := hf b (by unfold slFp; rw [if_neg hn, e]; simp [slB])
  rw [World.cell?_of_block (w := w) (by exact hb)]
  exact hc j u hj
theorem Rd.lt {w : World} {a : Option Addr} {n : Nat} {xs : List Value} (h : Rd w a n 1 xs) : ∀ b ∈ slFp (a, n, xs), b < w.heap.size := by
  intro b hb
  unfold slFp at hb
  split at hb
  · cases hb
  · rename_i hn
    obtain ⟨c, off, rfl, hc⟩ := h.2 hn
    simp [slB] at hb
    subst hb
    cases xs with
    | nil => exact absurd rfl hn
    | cons u xs => exact World.block_lt_of_cell? w ⟨b, off + 0, none⟩ (hc 0 u rfl)
def eS (l : List Sl) : Ent :=
  ⟨l.flatMap slFp, false, fun w => ∀ p ∈ l, Rd w p.1 p.2.1 1 p.2.2, fun h k p hp => Rd.loc (fun b hb => h b (List.mem_flatMap.2 ⟨p, hp, hb⟩)) (k p hp),
    fun h b hb => by obtain ⟨p, hp, hb⟩ := List.mem_flatMap.1 hb; exact Rd.lt (h p hp) b hb⟩
theorem St.initS {w : World} {l : List Sl} (h : ∀ p ∈ l, Rd w p.1 p.2.1 1 p.2.2) : St w [] w [eS l] := (St.init w []).put (e := eS l) h (by simp) (by intro q; cases q)
theorem St.initS1 {w : World} {a : Option Addr} {n : Nat} {xs : List Value} (h : Rd w a n 1 xs) : St w [] w [eS [(a, n, xs)]] := St.initS (by intro p hp; simp at hp; subst hp; exact h)
theorem St.initS2 {w : World} {a b : Option Addr} {n m : Nat} {xs ys : List Value} (h : Rd w a n 1 xs) (k : Rd w b m 1 ys) : St w [] w [eS [(a, n, xs), (b, m, ys)]] := St.initS (by intro p hp; simp at hp; rcases hp with rfl | rfl <;> assumption)
class InS (H : List Ent) (l : outParam (List Sl)) : Prop where h : eS l ∈ H
instance InS.there {x : Ent} {H : List Ent} {l : List Sl} [h : InS H l] : InS (x :: H) l := ⟨.tail _ h.h⟩
instance (priority := high) InS.here {H : List Ent} {l : List Sl} : InS (eS l :: H) l := ⟨.head _⟩
section
variable {P : Program} {N : Nat} {f : Fr} {w : World} {Hc : List Ent} {d : Nat} {A T : TypeId} {p : String} {aft : Array Edge} {x : Operand}
theorem X_ldS {l : List Sl} {b off j n : Nat} {xs : List Value} {v : Value} [hA : AgE P A false] (hc : Hold Hc w) [hm : InS Hc l] (hp : (some ⟨b, off, none⟩, n, xs) ∈ l) (hv : xs[j]? = some v) (hx : ev N f x = .pointer (some ⟨b, off + j * 1, none⟩)) :
    Ex P N f w ⟨some d, .load A x, T, p, aft, none⟩ v w := by
  have h1 : Rd w (some ⟨b, off, none⟩) n 1 xs := hc _ hm.h _ hp
  obtain ⟨c, o, e, h2⟩ := h1.2 (by intro hq; rw [hq] at hv; simp at hv)
  injection e with e; injection e with e1 e2; subst e1 e2
  exact X_loadc hx (by rw [Nat.mul_one]; exact h2 j v hv)
end
/-- One more of them behind. -/
theorem St.rdS {w0 w : World} {M : List Nat} {H : List Ent} {l : List Sl} (hs : St w0 M w H) [h : InS H l] {a : Option Addr} {n : Nat} {xs : List Value} (hp : (a, n, xs) ∈ l) : Rd w a n 1 xs := hs.has (eS l) h.h _ hp
end Go.Proofs.YtkbldndbofbkcaaGreatDoor
