/- replevinlaw34.LockEquals: the walk. | For any two locks with at most 40 holders, LockEquals returns true: Equal reports whether they are equal (the statement's tied card). No condition. -/
import Derived.Test.YtkbldndbofbkcaaGreatDoorMH
import Derived.Test.YtkbldndbofbkcaaGreatDoorMA
set_option linter.unusedSimpArgs false
set_option linter.unusedVariables false
/- replevinlaw34.LockEquals: the walk. -/
namespace Go.Proofs.YtkbldndbofbkcaaGreatDoor
open Go Go.RowKit
attribute [local irreducible] WL CW DW Ret RW
theorem lkSame_comm (a b : Lk) : lkSame a b = lkSame b a := by unfold lkSame; exact decide_eq_decide.2 eq_comm
theorem wrap_ne (n : Int) : ¬ n = IntKind.i64.wrap (n + 1) := by
  have h : IntKind.i64.wrap (n + 1) = (n + 1 + 9223372036854775808) % 18446744073709551616 - 9223372036854775808 := by
    simp [IntKind.wrap, IntKind.bits, IntKind.signed]
    try omega
  rw [h]; omega
theorem lockEquals_ok (ep : Int) (sh : Bool) (a : Option Addr) (n c : Nat) (bs : List UInt8) (t : ByteArray) (ep' : Int) (sh' : Bool) (a' : Option Addr) (n' c' : Nat) (bs' : List UInt8) (t' : ByteArray) (k : Nat) (w0 : World) (hr : Rd w0 a n 1 (bv bs)) (hn : n = bs.length) (hr' : Rd w0 a' n' 1 (bv bs')) (hn' : n' = bs'.length) :
    Ret Tryz.prog 7 #[.agg (rwV ep sh a n c t).toArray, .agg (rwV ep' sh' a' n' c' t').toArray, .int .u8 k] w0 fun v w' => v = .bool true ∧ Fm [] w0 w' := by
  have hs := St.init w0 []
  obtain ⟨L, hL⟩ : ∃ L, ownL ep sh bs t = L := ⟨_, rfl⟩
  obtain ⟨K, hK⟩ : ∃ K, ownL ep' sh' bs' t' = K := ⟨_, rfl⟩
  have hLl : L.hs.length ≤ 41 := hL ▸ ownL_len ep sh bs t
  have hKl : K.hs.length ≤ 41 := hK ▸ ownL_len ep' sh' bs' t'
  have htm : (k : Int).tmod 4 = ((k % 4 : Nat) : Int) := by rw [Int.tmod_eq_emod_of_nonneg (by omega)]; omega
  refine Ret_enter Tryz.func7 rfl Tryz.ntmps7 (by simp) ?_
  refine CW_seq (fun K1 hK1 => ?_)
  refine CW_region ?_
  refine bx (.agg (rwV ep sh a n c t).toArray) (vl := rwV ep sh a n c t) hs rfl rfl ?_
  intro w g3 hs hg3 hf3
  unfold rwV at hs
  refine bx (.agg (rwV ep' sh' a' n' c' t').toArray) (vl := rwV ep' sh' a' n' c' t') hs rfl rfl ?_
  intro w g4 hs hg4 hf4
  unfold rwV at hs
  refine asp (.bool _) rfl ?_
  refine WL_nil ?_
  refine hK1 _ _ ?_
  refine CW_cut (fun f w' => ∃ (g3 g4 g7 g8 : Nat) (b b' : Option Addr) (m m' d d' : Nat), f 2 = .int .u8 k ∧ f 3 = .pointer (some ⟨g3, 0, none⟩) ∧ f 4 = .pointer (some ⟨g4, 0, none⟩) ∧ f 7 = .pointer (some ⟨g7, 0, none⟩) ∧ f 8 = .pointer (some ⟨g8, 0, none⟩) ∧ m = L.hs.length ∧ m' = K.hs.length ∧ St w0 [] w' [eB g7 true (Blk 24 (lkV L.ep L.sh b m d)), eB g8 true (Blk 24 (lkV K.ep K.sh b' m' d')), eR (.slice b m d) 42 1 m (sv L.hs), eR (.slice b' m' d') 42 1 m' (sv K.hs), eB g3 true (Blk 56 [.int .i64 ep, .bool sh, .slice a n c, .string t])]) ?_ ?_
  · skip
    refine DW_s hs 7 ([eB g3 true (Blk 56 [.int .i64 ep, .bool sh, .slice a n c, .string t]), eB g4 true (Blk 56 [.int .i64 ep', .bool sh', .slice a' n' c', .string t'])]) ?_
    intro w hs _
    refine DW_q hs 0 rfl (by kernel_rfl) (fun w' hw' => X_ldAH hw' rfl (by simp)) ?_
    refine DW_q hs 2 rfl (by kernel_rfl) (fun w' hw' => X_ldAH hw' rfl (by simp)) ?_
    refine DW_l3 1 4 5 rfl rfl rfl (by kernel_rfl) ?_ ?_ ?_
    · skip
      refine cll (own34_ok ep sh a n c bs t _ (hr.fm hs.fm) hn) ?_
      rintro _ w ⟨⟨b, m, d, rfl, hm, hnew⟩, hf⟩
      replace hs := hs.callR hf hnew
      rw [hL] at hs hm
      rw [hL]
      refine WL_nil ?_
      refine ⟨.inr hs.hold, ?_⟩
      refine DW_l3 3 4 5 rfl rfl rfl (by kernel_rfl) ?_ ?_ ?_
      · skip
        refine cll (own34_ok ep' sh' a' n' c' bs' t' _ (hr'.fm hs.fm) hn') ?_
        rintro _ w ⟨⟨b', m', d', rfl, hm', hnew⟩, hf⟩
        replace hs := hs.callR hf hnew
        rw [hK] at hs hm'
        rw [hK]
        refine WL_nil ?_
        refine ⟨.inr hs.hold, ?_⟩
        refine DW_l2 4 5 rfl rfl (by kernel_rfl) ?_ ?_
        · skip
          refine alc hs ?_
          intro w g7 hs hg7 hf7
          refine WL_nil ?_
          refine ⟨.inr hs.hold, ?_⟩
          refine DW_l 5 rfl (by kernel_rfl) ?_
          refine alc hs ?_
          intro w g8 hs hg8 hf8
          refine WL_nil ?_
          refine ⟨.inr hs.hold, ?_⟩
          refine DW_l 6 rfl (by kernel_rfl) ?_
          refine sto (.agg (lkV L.ep L.sh b m d).toArray) (vl := lkV L.ep L.sh b m d) hs rfl rfl rfl rfl (by simp) rfl ?_
          intro w hs _
          rw [show spl [Value.int .i64 0, .bool false, .slice none 0 0] 0 (lkV L.ep L.sh b m d) = lkV L.ep L.sh b m d from rfl] at hs
          refine WL_nil ?_
          refine ⟨.inr hs.hold, ?_⟩
          refine DW_l 7 rfl (by kernel_rfl) ?_
          refine sto (.agg (lkV K.ep K.sh b' m' d').toArray) (vl := lkV K.ep K.sh b' m' d') hs rfl rfl rfl rfl (by simp) rfl ?_
          intro w hs _
          rw [show spl [Value.int .i64 0, .bool false, .slice none 0 0] 0 (lkV K.ep K.sh b' m' d') = lkV K.ep K.sh b' m' d' from rfl] at hs
          refine WL_nil ?_
          refine ⟨.inl rfl, ?_⟩
          refine DW_e (by kernel_rfl) ?_
          skip
          have hs' : St w0 [] _ [eB g7 true (Blk 24 (lkV L.ep L.sh b m d)), eB g8 true (Blk 24 (lkV K.ep K.sh b' m' d')), eR (.slice b m d) 42 1 m (sv L.hs), eR (.slice b' m' d') 42 1 m' (sv K.hs), eB g3 true (Blk 56 [.int .i64 ep, .bool sh, .slice a n c, .string t])] := hs.sel
          exact ⟨g3, g4, g7, g8, b, b', m, m', d, d', rfl, rfl, rfl, rfl, rfl, hm, hm', hs'⟩
        · skip
          refine alc hs ?_
          intro w g8 hs hg8 hf8
          refine WL_nil ?_
          refine ⟨.inr hs.hold, ?_⟩
          refine DW_l 4 rfl (by kernel_rfl) ?_
          refine alc hs ?_
          intro w g7 hs hg7 hf7
          refine WL_nil ?_
          refine ⟨.inr hs.hold, ?_⟩
          refine DW_l 6 rfl (by kernel_rfl) ?_
          refine sto (.agg (lkV L.ep L.sh b m d).toArray) (vl := lkV L.ep L.sh b m d) hs rfl rfl rfl rfl (by simp) rfl ?_
          intro w hs _
          rw [show spl [Value.int .i64 0, .bool false, .slice none 0 0] 0 (lkV L.ep L.sh b m d) = lkV L.ep L.sh b m d from rfl] at hs
          refine WL_nil ?_
          refine ⟨.inr hs.hold, ?_⟩
          refine DW_l 7 rfl (by kernel_rfl) ?_
          refine sto (.agg (lkV K.ep K.sh b' m' d').toArray) (vl := lkV K.ep K.sh b' m' d') hs rfl rfl rfl rfl (by simp) rfl ?_
          intro w hs _
          rw [show spl [Value.int .i64 0, .bool false, .slice none 0 0] 0 (lkV K.ep K.sh b' m' d') = lkV K.ep K.sh b' m' d' from rfl] at hs
          refine WL_nil ?_
          refine ⟨.inl rfl, ?_⟩
          refine DW_e (by kernel_rfl) ?_
          skip
          have hs' : St w0 [] _ [eB g7 true (Blk 24 (lkV L.ep L.sh b m d)), eB g8 true (Blk 24 (lkV K.ep K.sh b' m' d')), eR (.slice b m d) 42 1 m (sv L.hs), eR (.slice b' m' d') 42 1 m' (sv K.hs), eB g3 true (Blk 56 [.int .i64 ep, .bool sh, .slice a n c, .string t])] := hs.sel
          exact ⟨g3, g4, g7, g8, b, b', m, m', d, d', rfl, rfl, rfl, rfl, rfl, hm, hm', hs'⟩
      · skip
        refine alc hs ?_
        intro w g7 hs hg7 hf7
        refine WL_nil ?_
        refine ⟨.inr hs.hold, ?_⟩
        refine DW_l2 3 5 rfl rfl (by kernel_rfl) ?_ ?_
        · skip
          refine cll (own34_ok ep' sh' a' n' c' bs' t' _ (hr'.fm hs.fm) hn') ?_
          rintro _ w ⟨⟨b', m', d', rfl, hm', hnew⟩, hf⟩
          replace hs := hs.callR hf hnew
          rw [hK] at hs hm'
          rw [hK]
          refine WL_nil ?_
          refine ⟨.inr hs.hold, ?_⟩
          refine DW_l 5 rfl (by kernel_rfl) ?_
          refine alc hs ?_
          intro w g8 hs hg8 hf8
          refine WL_nil ?_
          refine ⟨.inr hs.hold, ?_⟩
          refine DW_l 6 rfl (by kernel_rfl) ?_
          refine sto (.agg (lkV L.ep L.sh b m d).toArray) (vl := lkV L.ep L.sh b m d) hs rfl rfl rfl rfl (by simp) rfl ?_
          intro w hs _
          rw [show spl [Value.int .i64 0, .bool false, .slice none 0 0] 0 (lkV L.ep L.sh b m d) = lkV L.ep L.sh b m d from rfl] at hs
          refine WL_nil ?_
          refine ⟨.inr hs.hold, ?_⟩
          refine DW_l 7 rfl (by kernel_rfl) ?_
          refine sto (.agg (lkV K.ep K.sh b' m' d').toArray) (vl := lkV K.ep K.sh b' m' d') hs rfl rfl rfl rfl (by simp) rfl ?_
          intro w hs _
          rw [show spl [Value.int .i64 0, .bool false, .slice none 0 0] 0 (lkV K.ep K.sh b' m' d') = lkV K.ep K.sh b' m' d' from rfl] at hs
          refine WL_nil ?_
          refine ⟨.inl rfl, ?_⟩
          refine DW_e (by kernel_rfl) ?_
          skip
          have hs' : St w0 [] _ [eB g7 true (Blk 24 (lkV L.ep L.sh b m d)), eB g8 true (Blk 24 (lkV K.ep K.sh b' m' d')), eR (.slice b m d) 42 1 m (sv L.hs), eR (.slice b' m' d') 42 1 m' (sv K.hs), eB g3 true (Blk 56 [.int .i64 ep, .bool sh, .slice a n c, .string t])] := hs.sel
          exact ⟨g3, g4, g7, g8, b, b', m, m', d, d', rfl, rfl, rfl, rfl, rfl, hm, hm', hs'⟩
        · skip
          refine alc hs ?_
          intro w g8 hs hg8 hf8
          refine WL_nil ?_
          refine ⟨.inr hs.hold, ?_⟩
          refine DW_l 3 rfl (by kernel_rfl) ?_
          refine cll (own34_ok ep' sh' a' n' c' bs' t' _ (hr'.fm hs.fm) hn') ?_
          rintro _ w ⟨⟨b', m', d', rfl, hm', hnew⟩, hf⟩
          replace hs := hs.callR hf hnew
          rw [hK] at hs hm'
          rw [hK]
          refine WL_nil ?_
          refine ⟨.inr hs.hold, ?_⟩
          refine DW_l 6 rfl (by kernel_rfl) ?_
          refine sto (.agg (lkV L.ep L.sh b m d).toArray) (vl := lkV L.ep L.sh b m d) hs rfl rfl rfl rfl (by simp) rfl ?_
          intro w hs _
          rw [show spl [Value.int .i64 0, .bool false, .slice none 0 0] 0 (lkV L.ep L.sh b m d) = lkV L.ep L.sh b m d from rfl] at hs
          refine WL_nil ?_
          refine ⟨.inr hs.hold, ?_⟩
          refine DW_l 7 rfl (by kernel_rfl) ?_
          refine sto (.agg (lkV K.ep K.sh b' m' d').toArray) (vl := lkV K.ep K.sh b' m' d') hs rfl rfl rfl rfl (by simp) rfl ?_
          intro w hs _
          rw [show spl [Value.int .i64 0, .bool false, .slice none 0 0] 0 (lkV K.ep K.sh b' m' d') = lkV K.ep K.sh b' m' d' from rfl] at hs
          refine WL_nil ?_
          refine ⟨.inl rfl, ?_⟩
          refine DW_e (by kernel_rfl) ?_
          skip
          have hs' : St w0 [] _ [eB g7 true (Blk 24 (lkV L.ep L.sh b m d)), eB g8 true (Blk 24 (lkV K.ep K.sh b' m' d')), eR (.slice b m d) 42 1 m (sv L.hs), eR (.slice b' m' d') 42 1 m' (sv K.hs), eB g3 true (Blk 56 [.int .i64 ep, .bool sh, .slice a n c, .string t])] := hs.sel
          exact ⟨g3, g4, g7, g8, b, b', m, m', d, d', rfl, rfl, rfl, rfl, rfl, hm, hm', hs'⟩
      · skip
        refine alc hs ?_
        intro w g8 hs hg8 hf8
        refine WL_nil ?_
        refine ⟨.inr hs.hold, ?_⟩
        refine DW_l2 3 4 rfl rfl (by kernel_rfl) ?_ ?_
        · skip
          refine cll (own34_ok ep' sh' a' n' c' bs' t' _ (hr'.fm hs.fm) hn') ?_
          rintro _ w ⟨⟨b', m', d', rfl, hm', hnew⟩, hf⟩
          replace hs := hs.callR hf hnew
          rw [hK] at hs hm'
          rw [hK]
          refine WL_nil ?_
          refine ⟨.inr hs.hold, ?_⟩
          refine DW_l 4 rfl (by kernel_rfl) ?_
          refine alc hs ?_
          intro w g7 hs hg7 hf7
          refine WL_nil ?_
          refine ⟨.inr hs.hold, ?_⟩
          refine DW_l 6 rfl (by kernel_rfl) ?_
          refine sto (.agg (lkV L.ep L.sh b m d).toArray) (vl := lkV L.ep L.sh b m d) hs rfl rfl rfl rfl (by simp) rfl ?_
          intro w hs _
          rw [show spl [Value.int .i64 0, .bool false, .slice none 0 0] 0 (lkV L.ep L.sh b m d) = lkV L.ep L.sh b m d from rfl] at hs
          refine WL_nil ?_
          refine ⟨.inr hs.hold, ?_⟩
          refine DW_l 7 rfl (by kernel_rfl) ?_
          refine sto (.agg (lkV K.ep K.sh b' m' d').toArray) (vl := lkV K.ep K.sh b' m' d') hs rfl rfl rfl rfl (by simp) rfl ?_
          intro w hs _
          rw [show spl [Value.int .i64 0, .bool false, .slice none 0 0] 0 (lkV K.ep K.sh b' m' d') = lkV K.ep K.sh b' m' d' from rfl] at hs
          refine WL_nil ?_
          refine ⟨.inl rfl, ?_⟩
          refine DW_e (by kernel_rfl) ?_
          skip
          have hs' : St w0 [] _ [eB g7 true (Blk 24 (lkV L.ep L.sh b m d)), eB g8 true (Blk 24 (lkV K.ep K.sh b' m' d')), eR (.slice b m d) 42 1 m (sv L.hs), eR (.slice b' m' d') 42 1 m' (sv K.hs), eB g3 true (Blk 56 [.int .i64 ep, .bool sh, .slice a n c, .string t])] := hs.sel
          exact ⟨g3, g4, g7, g8, b, b', m, m', d, d', rfl, rfl, rfl, rfl, rfl, hm, hm', hs'⟩
        · skip
          refine alc hs ?_
          intro w g7 hs hg7 hf7
          refine WL_nil ?_
          refine ⟨.inr hs.hold, ?_⟩
          refine DW_l 3 rfl (by kernel_rfl) ?_
          refine cll (own34_ok ep' sh' a' n' c' bs' t' _ (hr'.fm hs.fm) hn') ?_
          rintro _ w ⟨⟨b', m', d', rfl, hm', hnew⟩, hf⟩
          replace hs := hs.callR hf hnew
          rw [hK] at hs hm'
          rw [hK]
          refine WL_nil ?_
          refine ⟨.inr hs.hold, ?_⟩
          refine DW_l 6 rfl (by kernel_rfl) ?_
          refine sto (.agg (lkV L.ep L.sh b m d).toArray) (vl := lkV L.ep L.sh b m d) hs rfl rfl rfl rfl (by simp) rfl ?_
          intro w hs _
          rw [show spl [Value.int .i64 0, .bool false, .slice none 0 0] 0 (lkV L.ep L.sh b m d) = lkV L.ep L.sh b m d from rfl] at hs
          refine WL_nil ?_
          refine ⟨.inr hs.hold, ?_⟩
          refine DW_l 7 rfl (by kernel_rfl) ?_
          refine sto (.agg (lkV K.ep K.sh b' m' d').toArray) (vl := lkV K.ep K.sh b' m' d') hs rfl rfl rfl rfl (by simp) rfl ?_
          intro w hs _
          rw [show spl [Value.int .i64 0, .bool false, .slice none 0 0] 0 (lkV K.ep K.sh b' m' d') = lkV K.ep K.sh b' m' d' from rfl] at hs
          refine WL_nil ?_
          refine ⟨.inl rfl, ?_⟩
          refine DW_e (by kernel_rfl) ?_
          skip
          have hs' : St w0 [] _ [eB g7 true (Blk 24 (lkV L.ep L.sh b m d)), eB g8 true (Blk 24 (lkV K.ep K.sh b' m' d')), eR (.slice b m d) 42 1 m (sv L.hs), eR (.slice b' m' d') 42 1 m' (sv K.hs), eB g3 true (Blk 56 [.int .i64 ep, .bool sh, .slice a n c, .string t])] := hs.sel
          exact ⟨g3, g4, g7, g8, b, b', m, m', d, d', rfl, rfl, rfl, rfl, rfl, hm, hm', hs'⟩
    · skip
      refine alc hs ?_
      intro w g7 hs hg7 hf7
      refine WL_nil ?_
      refine ⟨.inr hs.hold, ?_⟩
      refine DW_l2 1 5 rfl rfl (by kernel_rfl) ?_ ?_
      · skip
        refine cll (own34_ok ep sh a n c bs t _ (hr.fm hs.fm) hn) ?_
        rintro _ w ⟨⟨b, m, d, rfl, hm, hnew⟩, hf⟩
        replace hs := hs.callR hf hnew
        rw [hL] at hs hm
        rw [hL]
        refine WL_nil ?_
        refine ⟨.inr hs.hold, ?_⟩
        refine DW_l2 3 5 rfl rfl (by kernel_rfl) ?_ ?_
        · skip
          refine cll (own34_ok ep' sh' a' n' c' bs' t' _ (hr'.fm hs.fm) hn') ?_
          rintro _ w ⟨⟨b', m', d', rfl, hm', hnew⟩, hf⟩
          replace hs := hs.callR hf hnew
          rw [hK] at hs hm'
          rw [hK]
          refine WL_nil ?_
          refine ⟨.inr hs.hold, ?_⟩
          refine DW_l 5 rfl (by kernel_rfl) ?_
          refine alc hs ?_
          intro w g8 hs hg8 hf8
          refine WL_nil ?_
          refine ⟨.inr hs.hold, ?_⟩
          refine DW_l 6 rfl (by kernel_rfl) ?_
          refine sto (.agg (lkV L.ep L.sh b m d).toArray) (vl := lkV L.ep L.sh b m d) hs rfl rfl rfl rfl (by simp) rfl ?_
          intro w hs _
          rw [show spl [Value.int .i64 0, .bool false, .slice none 0 0] 0 (lkV L.ep L.sh b m d) = lkV L.ep L.sh b m d from rfl] at hs
          refine WL_nil ?_
          refine ⟨.inr hs.hold, ?_⟩
          refine DW_l 7 rfl (by kernel_rfl) ?_
          refine sto (.agg (lkV K.ep K.sh b' m' d').toArray) (vl := lkV K.ep K.sh b' m' d') hs rfl rfl rfl rfl (by simp) rfl ?_
          intro w hs _
          rw [show spl [Value.int .i64 0, .bool false, .slice none 0 0] 0 (lkV K.ep K.sh b' m' d') = lkV K.ep K.sh b' m' d' from rfl] at hs
          refine WL_nil ?_
          refine ⟨.inl rfl, ?_⟩
          refine DW_e (by kernel_rfl) ?_
          skip
          have hs' : St w0 [] _ [eB g7 true (Blk 24 (lkV L.ep L.sh b m d)), eB g8 true (Blk 24 (lkV K.ep K.sh b' m' d')), eR (.slice b m d) 42 1 m (sv L.hs), eR (.slice b' m' d') 42 1 m' (sv K.hs), eB g3 true (Blk 56 [.int .i64 ep, .bool sh, .slice a n c, .string t])] := hs.sel
          exact ⟨g3, g4, g7, g8, b, b', m, m', d, d', rfl, rfl, rfl, rfl, rfl, hm, hm', hs'⟩
        · skip
          refine alc hs ?_
          intro w g8 hs hg8 hf8
          refine WL_nil ?_
          refine ⟨.inr hs.hold, ?_⟩
          refine DW_l 3 rfl (by kernel_rfl) ?_
          refine cll (own34_ok ep' sh' a' n' c' bs' t' _ (hr'.fm hs.fm) hn') ?_
          rintro _ w ⟨⟨b', m', d', rfl, hm', hnew⟩, hf⟩
          replace hs := hs.callR hf hnew
          rw [hK] at hs hm'
          rw [hK]
          refine WL_nil ?_
          refine ⟨.inr hs.hold, ?_⟩
          refine DW_l 6 rfl (by kernel_rfl) ?_
          refine sto (.agg (lkV L.ep L.sh b m d).toArray) (vl := lkV L.ep L.sh b m d) hs rfl rfl rfl rfl (by simp) rfl ?_
          intro w hs _
          rw [show spl [Value.int .i64 0, .bool false, .slice none 0 0] 0 (lkV L.ep L.sh b m d) = lkV L.ep L.sh b m d from rfl] at hs
          refine WL_nil ?_
          refine ⟨.inr hs.hold, ?_⟩
          refine DW_l 7 rfl (by kernel_rfl) ?_
          refine sto (.agg (lkV K.ep K.sh b' m' d').toArray) (vl := lkV K.ep K.sh b' m' d') hs rfl rfl rfl rfl (by simp) rfl ?_
          intro w hs _
          rw [show spl [Value.int .i64 0, .bool false, .slice none 0 0] 0 (lkV K.ep K.sh b' m' d') = lkV K.ep K.sh b' m' d' from rfl] at hs
          refine WL_nil ?_
          refine ⟨.inl rfl, ?_⟩
          refine DW_e (by kernel_rfl) ?_
          skip
          have hs' : St w0 [] _ [eB g7 true (Blk 24 (lkV L.ep L.sh b m d)), eB g8 true (Blk 24 (lkV K.ep K.sh b' m' d')), eR (.slice b m d) 42 1 m (sv L.hs), eR (.slice b' m' d') 42 1 m' (sv K.hs), eB g3 true (Blk 56 [.int .i64 ep, .bool sh, .slice a n c, .string t])] := hs.sel
          exact ⟨g3, g4, g7, g8, b, b', m, m', d, d', rfl, rfl, rfl, rfl, rfl, hm, hm', hs'⟩
      · skip
        refine alc hs ?_
        intro w g8 hs hg8 hf8
        refine WL_nil ?_
        refine ⟨.inr hs.hold, ?_⟩
        refine DW_l 1 rfl (by kernel_rfl) ?_
        refine cll (own34_ok ep sh a n c bs t _ (hr.fm hs.fm) hn) ?_
        rintro _ w ⟨⟨b, m, d, rfl, hm, hnew⟩, hf⟩
        replace hs := hs.callR hf hnew
        rw [hL] at hs hm
        rw [hL]
        refine WL_nil ?_
        refine ⟨.inr hs.hold, ?_⟩
        refine DW_l 3 rfl (by kernel_rfl) ?_
        refine cll (own34_ok ep' sh' a' n' c' bs' t' _ (hr'.fm hs.fm) hn') ?_
        rintro _ w ⟨⟨b', m', d', rfl, hm', hnew⟩, hf⟩
        replace hs := hs.callR hf hnew
        rw [hK] at hs hm'
        rw [hK]
        refine WL_nil ?_
        refine ⟨.inr hs.hold, ?_⟩
        refine DW_l 6 rfl (by kernel_rfl) ?_
        refine sto (.agg (lkV L.ep L.sh b m d).toArray) (vl := lkV L.ep L.sh b m d) hs rfl rfl rfl rfl (by simp) rfl ?_
        intro w hs _
        rw [show spl [Value.int .i64 0, .bool false, .slice none 0 0] 0 (lkV L.ep L.sh b m d) = lkV L.ep L.sh b m d from rfl] at hs
        refine WL_nil ?_
        refine ⟨.inr hs.hold, ?_⟩
        refine DW_l 7 rfl (by kernel_rfl) ?_
        refine sto (.agg (lkV K.ep K.sh b' m' d').toArray) (vl := lkV K.ep K.sh b' m' d') hs rfl rfl rfl rfl (by simp) rfl ?_
        intro w hs _
        rw [show spl [Value.int .i64 0, .bool false, .slice none 0 0] 0 (lkV K.ep K.sh b' m' d') = lkV K.ep K.sh b' m' d' from rfl] at hs
        refine WL_nil ?_
        refine ⟨.inl rfl, ?_⟩
        refine DW_e (by kernel_rfl) ?_
        skip
        have hs' : St w0 [] _ [eB g7 true (Blk 24 (lkV L.ep L.sh b m d)), eB g8 true (Blk 24 (lkV K.ep K.sh b' m' d')), eR (.slice b m d) 42 1 m (sv L.hs), eR (.slice b' m' d') 42 1 m' (sv K.hs), eB g3 true (Blk 56 [.int .i64 ep, .bool sh, .slice a n c, .string t])] := hs.sel
        exact ⟨g3, g4, g7, g8, b, b', m, m', d, d', rfl, rfl, rfl, rfl, rfl, hm, hm', hs'⟩
    · skip
      refine alc hs ?_
      intro w g8 hs hg8 hf8
      refine WL_nil ?_
      refine ⟨.inr hs.hold, ?_⟩
      refine DW_l2 1 4 rfl rfl (by kernel_rfl) ?_ ?_
      · skip
        refine cll (own34_ok ep sh a n c bs t _ (hr.fm hs.fm) hn) ?_
        rintro _ w ⟨⟨b, m, d, rfl, hm, hnew⟩, hf⟩
        replace hs := hs.callR hf hnew
        rw [hL] at hs hm
        rw [hL]
        refine WL_nil ?_
        refine ⟨.inr hs.hold, ?_⟩
        refine DW_l2 3 4 rfl rfl (by kernel_rfl) ?_ ?_
        · skip
          refine cll (own34_ok ep' sh' a' n' c' bs' t' _ (hr'.fm hs.fm) hn') ?_
          rintro _ w ⟨⟨b', m', d', rfl, hm', hnew⟩, hf⟩
          replace hs := hs.callR hf hnew
          rw [hK] at hs hm'
          rw [hK]
          refine WL_nil ?_
          refine ⟨.inr hs.hold, ?_⟩
          refine DW_l 4 rfl (by kernel_rfl) ?_
          refine alc hs ?_
          intro w g7 hs hg7 hf7
          refine WL_nil ?_
          refine ⟨.inr hs.hold, ?_⟩
          refine DW_l 6 rfl (by kernel_rfl) ?_
          refine sto (.agg (lkV L.ep L.sh b m d).toArray) (vl := lkV L.ep L.sh b m d) hs rfl rfl rfl rfl (by simp) rfl ?_
          intro w hs _
          rw [show spl [Value.int .i64 0, .bool false, .slice none 0 0] 0 (lkV L.ep L.sh b m d) = lkV L.ep L.sh b m d from rfl] at hs
          refine WL_nil ?_
          refine ⟨.inr hs.hold, ?_⟩
          refine DW_l 7 rfl (by kernel_rfl) ?_
          refine sto (.agg (lkV K.ep K.sh b' m' d').toArray) (vl := lkV K.ep K.sh b' m' d') hs rfl rfl rfl rfl (by simp) rfl ?_
          intro w hs _
          rw [show spl [Value.int .i64 0, .bool false, .slice none 0 0] 0 (lkV K.ep K.sh b' m' d') = lkV K.ep K.sh b' m' d' from rfl] at hs
          refine WL_nil ?_
          refine ⟨.inl rfl, ?_⟩
          refine DW_e (by kernel_rfl) ?_
          skip
          have hs' : St w0 [] _ [eB g7 true (Blk 24 (lkV L.ep L.sh b m d)), eB g8 true (Blk 24 (lkV K.ep K.sh b' m' d')), eR (.slice b m d) 42 1 m (sv L.hs), eR (.slice b' m' d') 42 1 m' (sv K.hs), eB g3 true (Blk 56 [.int .i64 ep, .bool sh, .slice a n c, .string t])] := hs.sel
          exact ⟨g3, g4, g7, g8, b, b', m, m', d, d', rfl, rfl, rfl, rfl, rfl, hm, hm', hs'⟩
        · skip
          refine alc hs ?_
          intro w g7 hs hg7 hf7
          refine WL_nil ?_
          refine ⟨.inr hs.hold, ?_⟩
          refine DW_l 3 rfl (by kernel_rfl) ?_
          refine cll (own34_ok ep' sh' a' n' c' bs' t' _ (hr'.fm hs.fm) hn') ?_
          rintro _ w ⟨⟨b', m', d', rfl, hm', hnew⟩, hf⟩
          replace hs := hs.callR hf hnew
          rw [hK] at hs hm'
          rw [hK]
          refine WL_nil ?_
          refine ⟨.inr hs.hold, ?_⟩
          refine DW_l 6 rfl (by kernel_rfl) ?_
          refine sto (.agg (lkV L.ep L.sh b m d).toArray) (vl := lkV L.ep L.sh b m d) hs rfl rfl rfl rfl (by simp) rfl ?_
          intro w hs _
          rw [show spl [Value.int .i64 0, .bool false, .slice none 0 0] 0 (lkV L.ep L.sh b m d) = lkV L.ep L.sh b m d from rfl] at hs
          refine WL_nil ?_
          refine ⟨.inr hs.hold, ?_⟩
          refine DW_l 7 rfl (by kernel_rfl) ?_
          refine sto (.agg (lkV K.ep K.sh b' m' d').toArray) (vl := lkV K.ep K.sh b' m' d') hs rfl rfl rfl rfl (by simp) rfl ?_
          intro w hs _
          rw [show spl [Value.int .i64 0, .bool false, .slice none 0 0] 0 (lkV K.ep K.sh b' m' d') = lkV K.ep K.sh b' m' d' from rfl] at hs
          refine WL_nil ?_
          refine ⟨.inl rfl, ?_⟩
          refine DW_e (by kernel_rfl) ?_
          skip
          have hs' : St w0 [] _ [eB g7 true (Blk 24 (lkV L.ep L.sh b m d)), eB g8 true (Blk 24 (lkV K.ep K.sh b' m' d')), eR (.slice b m d) 42 1 m (sv L.hs), eR (.slice b' m' d') 42 1 m' (sv K.hs), eB g3 true (Blk 56 [.int .i64 ep, .bool sh, .slice a n c, .string t])] := hs.sel
          exact ⟨g3, g4, g7, g8, b, b', m, m', d, d', rfl, rfl, rfl, rfl, rfl, hm, hm', hs'⟩
      · skip
        refine alc hs ?_
        intro w g7 hs hg7 hf7
        refine WL_nil ?_
        refine ⟨.inr hs.hold, ?_⟩
        refine DW_l 1 rfl (by kernel_rfl) ?_
        refine cll (own34_ok ep sh a n c bs t _ (hr.fm hs.fm) hn) ?_
        rintro _ w ⟨⟨b, m, d, rfl, hm, hnew⟩, hf⟩
        replace hs := hs.callR hf hnew
        rw [hL] at hs hm
        rw [hL]
        refine WL_nil ?_
        refine ⟨.inr hs.hold, ?_⟩
        refine DW_l 3 rfl (by kernel_rfl) ?_
        refine cll (own34_ok ep' sh' a' n' c' bs' t' _ (hr'.fm hs.fm) hn') ?_
        rintro _ w ⟨⟨b', m', d', rfl, hm', hnew⟩, hf⟩
        replace hs := hs.callR hf hnew
        rw [hK] at hs hm'
        rw [hK]
        refine WL_nil ?_
        refine ⟨.inr hs.hold, ?_⟩
        refine DW_l 6 rfl (by kernel_rfl) ?_
        refine sto (.agg (lkV L.ep L.sh b m d).toArray) (vl := lkV L.ep L.sh b m d) hs rfl rfl rfl rfl (by simp) rfl ?_
        intro w hs _
        rw [show spl [Value.int .i64 0, .bool false, .slice none 0 0] 0 (lkV L.ep L.sh b m d) = lkV L.ep L.sh b m d from rfl] at hs
        refine WL_nil ?_
        refine ⟨.inr hs.hold, ?_⟩
        refine DW_l 7 rfl (by kernel_rfl) ?_
        refine sto (.agg (lkV K.ep K.sh b' m' d').toArray) (vl := lkV K.ep K.sh b' m' d') hs rfl rfl rfl rfl (by simp) rfl ?_
        intro w hs _
        rw [show spl [Value.int .i64 0, .bool false, .slice none 0 0] 0 (lkV K.ep K.sh b' m' d') = lkV K.ep K.sh b' m' d' from rfl] at hs
        refine WL_nil ?_
        refine ⟨.inl rfl, ?_⟩
        refine DW_e (by kernel_rfl) ?_
        skip
        have hs' : St w0 [] _ [eB g7 true (Blk 24 (lkV L.ep L.sh b m d)), eB g8 true (Blk 24 (lkV K.ep K.sh b' m' d')), eR (.slice b m d) 42 1 m (sv L.hs), eR (.slice b' m' d') 42 1 m' (sv K.hs), eB g3 true (Blk 56 [.int .i64 ep, .bool sh, .slice a n c, .string t])] := hs.sel
        exact ⟨g3, g4, g7, g8, b, b', m, m', d, d', rfl, rfl, rfl, rfl, rfl, hm, hm', hs'⟩
  · skip
    rintro f w ⟨g3, g4, g7, g8, b, b', m, m', d, d', e2, e3, e4, e7, e8, hm, hm', hs⟩
    refine CW_kn (i := 2) e2 (CW_kn (i := 3) e3 (CW_kn (i := 4) e4 (CW_kn (i := 7) e7 (CW_kn (i := 8) e8 ?_))))
    refine CW_seq (fun K2 hK2 => ?_)
    refine CW_region ?_
    refine ldA hs rfl (by simp) ?_
    refine cll (own34_ok ep sh a n c bs t _ (hr.fm hs.fm) hn) ?_
    rintro _ w ⟨⟨x, y, z, rfl, hy, hnew⟩, hf⟩
    replace hs := hs.callR hf hnew
    rw [hL] at hs hy
    rw [hL]
    refine alc hs ?_
    intro w g9 hs hg9 hf9
    refine sto (.agg (lkV L.ep L.sh x y z).toArray) (vl := lkV L.ep L.sh x y z) hs rfl rfl rfl rfl (by simp) rfl ?_
    intro w hs _
    replace hs : St w0 [] w (eB g9 true (Blk 24 [.int .i64 L.ep, .bool L.sh, .slice x y z]) :: _) := hs
    refine WL_nil ?_
    refine hK2 _ _ ?_
    refine CW_cut (fun f w' => ∃ (Z : Lk) (x : Option Addr) (y z : Nat), f 2 = .int .u8 k ∧ f 7 = .pointer (some ⟨g7, 0, none⟩) ∧ f 8 = .pointer (some ⟨g8, 0, none⟩) ∧ f 9 = .pointer (some ⟨g9, 0, none⟩) ∧ y = Z.hs.length ∧ y ≤ 42 ∧ lkSame L Z = decide (k % 4 = 0) ∧ St w0 [] w' [eB g9 true (Blk 24 (lkV Z.ep Z.sh x y z)), eR (.slice x y z) 42 1 y (sv Z.hs), eB g7 true (Blk 24 (lkV L.ep L.sh b m d)), eB g8 true (Blk 24 (lkV K.ep K.sh b' m' d')), eR (.slice b m d) 42 1 m (sv L.hs), eR (.slice b' m' d') 42 1 m' (sv K.hs)]) ?_ ?_
    · skip
      refine CW_seq (fun K3 hK3 => ?_)
      refine CW_region ?_
      refine mvp (.int _ _) rfl ?_
      refine remW rfl rfl (by omega) ?_
      refine WL_nil ?_
      refine hK3 _ _ ?_
      refine CW_block ?_
      refine CW_seq (fun K4 hK4 => ?_)
      refine CW_region ?_
      refine eqlW rfl rfl ?_
      refine asp (.bool _) rfl ?_
      refine WL_nil ?_
      refine hK4 _ _ ?_
      refine CW_cond rfl (fun hc18 => ?_) (fun hc18 => ?_)
      · skip
        refine CW_region ?_
        refine fad rfl ?_
        refine ld hs rfl rfl ?_
        refine addW rfl rfl ?_
        refine fad rfl ?_
        refine sto (.int .i64 (IntKind.i64.wrap (L.ep + 1))) hs rfl rfl rfl rfl (by simp) rfl ?_
        intro w hs _
        replace hs : St w0 [] w (eB g9 true (Blk 24 (lkV (IntKind.i64.wrap (L.ep + 1)) L.sh x y z)) :: _) := hs
        refine WL_nil ?_
        first
        | (have h18 : k % 4 = 1 := by rw [htm] at hc18; simp at hc18; omega
           have hs' : St w0 [] _ [eB g9 true (Blk 24 (lkV (IntKind.i64.wrap (L.ep + 1)) L.sh x y z)), eR (.slice x y z) 42 1 y (sv L.hs), eB g7 true (Blk 24 (lkV L.ep L.sh b m d)), eB g8 true (Blk 24 (lkV K.ep K.sh b' m' d')), eR (.slice b m d) 42 1 m (sv L.hs), eR (.slice b' m' d') 42 1 m' (sv K.hs)] := hs.sel
           refine ⟨⟨IntKind.i64.wrap (L.ep + 1), L.sh, L.hs⟩, x, y, z, rfl, rfl, rfl, rfl, hy, by omega, ?_, hs'⟩
           rw [h18]
           exact decide_eq_false fun q => wrap_ne L.ep (congrArg Lk.ep q))
        | (have h24 : k % 4 = 2 := by rw [htm] at hc24; simp at hc24; omega
           have hs' : St w0 [] _ [eB g9 true (Blk 24 (lkV L.ep (!L.sh) x y z)), eR (.slice x y z) 42 1 y (sv L.hs), eB g7 true (Blk 24 (lkV L.ep L.sh b m d)), eB g8 true (Blk 24 (lkV K.ep K.sh b' m' d')), eR (.slice b m d) 42 1 m (sv L.hs), eR (.slice b' m' d') 42 1 m' (sv K.hs)] := hs.sel
           refine ⟨⟨L.ep, !L.sh, L.hs⟩, x, y, z, rfl, rfl, rfl, rfl, hy, by omega, ?_, hs'⟩
           rw [h24]
           exact decide_eq_false fun q => by have := congrArg Lk.sh q; simp at this)
        | (have h30 : k % 4 = 3 := by rw [htm] at hc30; simp at hc30; omega
           have hs' : St w0 [] _ [eB g9 true (Blk 24 (lkV L.ep L.sh a2 (y + 1) c2)), eR (.slice a2 (y + 1) c2) 42 1 (y + 1) (sv L.hs ++ [.string ⟨#[57]⟩]), eB g7 true (Blk 24 (lkV L.ep L.sh b m d)), eB g8 true (Blk 24 (lkV K.ep K.sh b' m' d')), eR (.slice b m d) 42 1 m (sv L.hs), eR (.slice b' m' d') 42 1 m' (sv K.hs)] := hs.sel
           have e5 : sv L.hs ++ [.string ⟨#[57]⟩] = sv (L.hs ++ [⟨#[57]⟩]) := by simp [sv]
           rw [e5] at hs'
           refine ⟨⟨L.ep, L.sh, L.hs ++ [⟨#[57]⟩]⟩, a2, y + 1, c2, rfl, rfl, rfl, rfl, by simp; omega, by omega, ?_, hs'⟩
           rw [h30]
           exact decide_eq_false fun q => by have := congrArg (fun l => l.hs.length) q; simp at this)
        | (have h0 : k % 4 = 0 := by rw [htm] at hc18 hc24 hc30; simp at hc18 hc24 hc30; omega
           have hs' : St w0 [] _ [eB g9 true (Blk 24 [.int .i64 L.ep, .bool L.sh, .slice x y z]), eR (.slice x y z) 42 1 y (sv L.hs), eB g7 true (Blk 24 (lkV L.ep L.sh b m d)), eB g8 true (Blk 24 (lkV K.ep K.sh b' m' d')), eR (.slice b m d) 42 1 m (sv L.hs), eR (.slice b' m' d') 42 1 m' (sv K.hs)] := hs.sel
           refine ⟨L, x, y, z, rfl, rfl, rfl, rfl, hy, by omega, ?_, hs'⟩
           rw [h0]
           exact decide_eq_true rfl)
      · skip
        refine CW_seq (fun K5 hK5 => ?_)
        refine CW_region ?_
        refine eqlW rfl rfl ?_
        refine asp (.bool _) rfl ?_
        refine WL_nil ?_
        refine hK5 _ _ ?_
        refine CW_cond rfl (fun hc24 => ?_) (fun hc24 => ?_)
        · skip
          refine CW_region ?_
          refine fad rfl ?_
          refine ld hs rfl rfl ?_
          refine notW rfl ?_
          refine fad rfl ?_
          refine sto (.bool (!L.sh)) hs rfl rfl rfl rfl (by simp) rfl ?_
          intro w hs _
          replace hs : St w0 [] w (eB g9 true (Blk 24 (lkV L.ep (!L.sh) x y z)) :: _) := hs
          refine WL_nil ?_
          first
          | (have h18 : k % 4 = 1 := by rw [htm] at hc18; simp at hc18; omega
             have hs' : St w0 [] _ [eB g9 true (Blk 24 (lkV (IntKind.i64.wrap (L.ep + 1)) L.sh x y z)), eR (.slice x y z) 42 1 y (sv L.hs), eB g7 true (Blk 24 (lkV L.ep L.sh b m d)), eB g8 true (Blk 24 (lkV K.ep K.sh b' m' d')), eR (.slice b m d) 42 1 m (sv L.hs), eR (.slice b' m' d') 42 1 m' (sv K.hs)] := hs.sel
             refine ⟨⟨IntKind.i64.wrap (L.ep + 1), L.sh, L.hs⟩, x, y, z, rfl, rfl, rfl, rfl, hy, by omega, ?_, hs'⟩
             rw [h18]
             exact decide_eq_false fun q => wrap_ne L.ep (congrArg Lk.ep q))
          | (have h24 : k % 4 = 2 := by rw [htm] at hc24; simp at hc24; omega
             have hs' : St w0 [] _ [eB g9 true (Blk 24 (lkV L.ep (!L.sh) x y z)), eR (.slice x y z) 42 1 y (sv L.hs), eB g7 true (Blk 24 (lkV L.ep L.sh b m d)), eB g8 true (Blk 24 (lkV K.ep K.sh b' m' d')), eR (.slice b m d) 42 1 m (sv L.hs), eR (.slice b' m' d') 42 1 m' (sv K.hs)] := hs.sel
             refine ⟨⟨L.ep, !L.sh, L.hs⟩, x, y, z, rfl, rfl, rfl, rfl, hy, by omega, ?_, hs'⟩
             rw [h24]
             exact decide_eq_false fun q => by have := congrArg Lk.sh q; simp at this)
          | (have h30 : k % 4 = 3 := by rw [htm] at hc30; simp at hc30; omega
             have hs' : St w0 [] _ [eB g9 true (Blk 24 (lkV L.ep L.sh a2 (y + 1) c2)), eR (.slice a2 (y + 1) c2) 42 1 (y + 1) (sv L.hs ++ [.string ⟨#[57]⟩]), eB g7 true (Blk 24 (lkV L.ep L.sh b m d)), eB g8 true (Blk 24 (lkV K.ep K.sh b' m' d')), eR (.slice b m d) 42 1 m (sv L.hs), eR (.slice b' m' d') 42 1 m' (sv K.hs)] := hs.sel
             have e5 : sv L.hs ++ [.string ⟨#[57]⟩] = sv (L.hs ++ [⟨#[57]⟩]) := by simp [sv]
             rw [e5] at hs'
             refine ⟨⟨L.ep, L.sh, L.hs ++ [⟨#[57]⟩]⟩, a2, y + 1, c2, rfl, rfl, rfl, rfl, by simp; omega, by omega, ?_, hs'⟩
             rw [h30]
             exact decide_eq_false fun q => by have := congrArg (fun l => l.hs.length) q; simp at this)
          | (have h0 : k % 4 = 0 := by rw [htm] at hc18 hc24 hc30; simp at hc18 hc24 hc30; omega
             have hs' : St w0 [] _ [eB g9 true (Blk 24 [.int .i64 L.ep, .bool L.sh, .slice x y z]), eR (.slice x y z) 42 1 y (sv L.hs), eB g7 true (Blk 24 (lkV L.ep L.sh b m d)), eB g8 true (Blk 24 (lkV K.ep K.sh b' m' d')), eR (.slice b m d) 42 1 m (sv L.hs), eR (.slice b' m' d') 42 1 m' (sv K.hs)] := hs.sel
             refine ⟨L, x, y, z, rfl, rfl, rfl, rfl, hy, by omega, ?_, hs'⟩
             rw [h0]
             exact decide_eq_true rfl)
        · skip
          refine CW_seq (fun K6 hK6 => ?_)
          refine CW_region ?_
          refine eqlW rfl rfl ?_
          refine asp (.bool _) rfl ?_
          refine WL_nil ?_
          refine hK6 _ _ ?_
          refine CW_cond rfl (fun hc30 => ?_) (fun hc30 => ?_)
          · skip
            refine CW_region ?_
            refine fad rfl ?_
            refine ld hs rfl rfl ?_
            refine W_bslice hs (BS.ss rfl .nil) rfl (by simp) ?_
            intro w g34 hs hg34 hf34
            refine app1 hs rfl rfl (by rfl) (by rfl) (by decide) (by rfl) (by omega) (by omega) ?_
            intro a2 c2 w hs _
            refine fad rfl ?_
            refine sto (.slice a2 (y + 1) c2) hs rfl rfl rfl rfl (by simp) rfl ?_
            intro w hs _
            replace hs : St w0 [] w (_ :: eB g9 true (Blk 24 (lkV L.ep L.sh a2 (y + 1) c2)) :: _) := hs
            refine WL_nil ?_
            first
            | (have h18 : k % 4 = 1 := by rw [htm] at hc18; simp at hc18; omega
               have hs' : St w0 [] _ [eB g9 true (Blk 24 (lkV (IntKind.i64.wrap (L.ep + 1)) L.sh x y z)), eR (.slice x y z) 42 1 y (sv L.hs), eB g7 true (Blk 24 (lkV L.ep L.sh b m d)), eB g8 true (Blk 24 (lkV K.ep K.sh b' m' d')), eR (.slice b m d) 42 1 m (sv L.hs), eR (.slice b' m' d') 42 1 m' (sv K.hs)] := hs.sel
               refine ⟨⟨IntKind.i64.wrap (L.ep + 1), L.sh, L.hs⟩, x, y, z, rfl, rfl, rfl, rfl, hy, by omega, ?_, hs'⟩
               rw [h18]
               exact decide_eq_false fun q => wrap_ne L.ep (congrArg Lk.ep q))
            | (have h24 : k % 4 = 2 := by rw [htm] at hc24; simp at hc24; omega
               have hs' : St w0 [] _ [eB g9 true (Blk 24 (lkV L.ep (!L.sh) x y z)), eR (.slice x y z) 42 1 y (sv L.hs), eB g7 true (Blk 24 (lkV L.ep L.sh b m d)), eB g8 true (Blk 24 (lkV K.ep K.sh b' m' d')), eR (.slice b m d) 42 1 m (sv L.hs), eR (.slice b' m' d') 42 1 m' (sv K.hs)] := hs.sel
               refine ⟨⟨L.ep, !L.sh, L.hs⟩, x, y, z, rfl, rfl, rfl, rfl, hy, by omega, ?_, hs'⟩
               rw [h24]
               exact decide_eq_false fun q => by have := congrArg Lk.sh q; simp at this)
            | (have h30 : k % 4 = 3 := by rw [htm] at hc30; simp at hc30; omega
               have hs' : St w0 [] _ [eB g9 true (Blk 24 (lkV L.ep L.sh a2 (y + 1) c2)), eR (.slice a2 (y + 1) c2) 42 1 (y + 1) (sv L.hs ++ [.string ⟨#[57]⟩]), eB g7 true (Blk 24 (lkV L.ep L.sh b m d)), eB g8 true (Blk 24 (lkV K.ep K.sh b' m' d')), eR (.slice b m d) 42 1 m (sv L.hs), eR (.slice b' m' d') 42 1 m' (sv K.hs)] := hs.sel
               have e5 : sv L.hs ++ [.string ⟨#[57]⟩] = sv (L.hs ++ [⟨#[57]⟩]) := by simp [sv]
               rw [e5] at hs'
               refine ⟨⟨L.ep, L.sh, L.hs ++ [⟨#[57]⟩]⟩, a2, y + 1, c2, rfl, rfl, rfl, rfl, by simp; omega, by omega, ?_, hs'⟩
               rw [h30]
               exact decide_eq_false fun q => by have := congrArg (fun l => l.hs.length) q; simp at this)
            | (have h0 : k % 4 = 0 := by rw [htm] at hc18 hc24 hc30; simp at hc18 hc24 hc30; omega
               have hs' : St w0 [] _ [eB g9 true (Blk 24 [.int .i64 L.ep, .bool L.sh, .slice x y z]), eR (.slice x y z) 42 1 y (sv L.hs), eB g7 true (Blk 24 (lkV L.ep L.sh b m d)), eB g8 true (Blk 24 (lkV K.ep K.sh b' m' d')), eR (.slice b m d) 42 1 m (sv L.hs), eR (.slice b' m' d') 42 1 m' (sv K.hs)] := hs.sel
               refine ⟨L, x, y, z, rfl, rfl, rfl, rfl, hy, by omega, ?_, hs'⟩
               rw [h0]
               exact decide_eq_true rfl)
          · skip
            refine CW_skip ?_
            first
            | (have h18 : k % 4 = 1 := by rw [htm] at hc18; simp at hc18; omega
               have hs' : St w0 [] _ [eB g9 true (Blk 24 (lkV (IntKind.i64.wrap (L.ep + 1)) L.sh x y z)), eR (.slice x y z) 42 1 y (sv L.hs), eB g7 true (Blk 24 (lkV L.ep L.sh b m d)), eB g8 true (Blk 24 (lkV K.ep K.sh b' m' d')), eR (.slice b m d) 42 1 m (sv L.hs), eR (.slice b' m' d') 42 1 m' (sv K.hs)] := hs.sel
               refine ⟨⟨IntKind.i64.wrap (L.ep + 1), L.sh, L.hs⟩, x, y, z, rfl, rfl, rfl, rfl, hy, by omega, ?_, hs'⟩
               rw [h18]
               exact decide_eq_false fun q => wrap_ne L.ep (congrArg Lk.ep q))
            | (have h24 : k % 4 = 2 := by rw [htm] at hc24; simp at hc24; omega
               have hs' : St w0 [] _ [eB g9 true (Blk 24 (lkV L.ep (!L.sh) x y z)), eR (.slice x y z) 42 1 y (sv L.hs), eB g7 true (Blk 24 (lkV L.ep L.sh b m d)), eB g8 true (Blk 24 (lkV K.ep K.sh b' m' d')), eR (.slice b m d) 42 1 m (sv L.hs), eR (.slice b' m' d') 42 1 m' (sv K.hs)] := hs.sel
               refine ⟨⟨L.ep, !L.sh, L.hs⟩, x, y, z, rfl, rfl, rfl, rfl, hy, by omega, ?_, hs'⟩
               rw [h24]
               exact decide_eq_false fun q => by have := congrArg Lk.sh q; simp at this)
            | (have h30 : k % 4 = 3 := by rw [htm] at hc30; simp at hc30; omega
               have hs' : St w0 [] _ [eB g9 true (Blk 24 (lkV L.ep L.sh a2 (y + 1) c2)), eR (.slice a2 (y + 1) c2) 42 1 (y + 1) (sv L.hs ++ [.string ⟨#[57]⟩]), eB g7 true (Blk 24 (lkV L.ep L.sh b m d)), eB g8 true (Blk 24 (lkV K.ep K.sh b' m' d')), eR (.slice b m d) 42 1 m (sv L.hs), eR (.slice b' m' d') 42 1 m' (sv K.hs)] := hs.sel
               have e5 : sv L.hs ++ [.string ⟨#[57]⟩] = sv (L.hs ++ [⟨#[57]⟩]) := by simp [sv]
               rw [e5] at hs'
               refine ⟨⟨L.ep, L.sh, L.hs ++ [⟨#[57]⟩]⟩, a2, y + 1, c2, rfl, rfl, rfl, rfl, by simp; omega, by omega, ?_, hs'⟩
               rw [h30]
               exact decide_eq_false fun q => by have := congrArg (fun l => l.hs.length) q; simp at this)
            | (have h0 : k % 4 = 0 := by rw [htm] at hc18 hc24 hc30; simp at hc18 hc24 hc30; omega
               have hs' : St w0 [] _ [eB g9 true (Blk 24 [.int .i64 L.ep, .bool L.sh, .slice x y z]), eR (.slice x y z) 42 1 y (sv L.hs), eB g7 true (Blk 24 (lkV L.ep L.sh b m d)), eB g8 true (Blk 24 (lkV K.ep K.sh b' m' d')), eR (.slice b m d) 42 1 m (sv L.hs), eR (.slice b' m' d') 42 1 m' (sv K.hs)] := hs.sel
               refine ⟨L, x, y, z, rfl, rfl, rfl, rfl, hy, by omega, ?_, hs'⟩
               rw [h0]
               exact decide_eq_true rfl)
    · skip
      rintro f w ⟨Z, x, y, z, e2, e7, e8, e9, hy, hy42, hZ, hs⟩
      refine CW_kn (i := 2) e2 (CW_kn (i := 7) e7 (CW_kn (i := 8) e8 (CW_kn (i := 9) e9 ?_)))
      have hZ2 := lkSame_comm Z L
      rw [hZ] at hZ2
      refine CW_seq (fun K7 hK7 => ?_)
      refine DW_s hs 25 ([eB g9 true (Blk 24 (lkV Z.ep Z.sh x y z)), eB g7 true (Blk 24 (lkV L.ep L.sh b m d)), eB g8 true (Blk 24 (lkV K.ep K.sh b' m' d'))]) ?_
      intro w hs _
      refine DW_l 0 rfl (by kernel_rfl) ?_
      refine cll (known_ok _) ?_
      rintro _ w ⟨rfl, hf⟩
      replace hs := hs.call hf
      refine WL_nil ?_
      refine ⟨.inr hs.hold, ?_⟩
      refine DW_q hs 1 rfl (by kernel_rfl) (fun w' hw' => X_move (v := (.bool _)) rfl) ?_
      refine DW_bT (g := 38) (by decide) rfl (rfl) ?_
      refine DW_qy hs 2 rfl (by kernel_rfl) rfl (by decide) rfl (fun w' hw' => X_ldAH hw' rfl (by simp)) ?_
      refine DW_qy hs 3 rfl (by kernel_rfl) rfl (by decide) rfl (fun w' hw' => X_ldAH hw' rfl (by simp)) ?_
      refine DW_qy hs 5 rfl (by kernel_rfl) rfl (by decide) rfl (fun w' hw' => X_ldAH hw' rfl (by simp)) ?_
      refine DW_qy hs 6 rfl (by kernel_rfl) rfl (by decide) rfl (fun w' hw' => X_ldAH hw' rfl (by simp)) ?_
      refine DW_l 4 rfl (by kernel_rfl) ?_
      refine WL_gy (g := 38) rfl (by decide) rfl ?_
      refine cll (LEqual_ok L K b b' m d m' d' _ (hs.rd (a := b)) hm (hs.rd (a := b')) hm' (by omega)) ?_
      rintro _ w ⟨rfl, hf⟩
      replace hs := hs.call hf
      refine WL_nil ?_
      refine ⟨.inr hs.hold, ?_⟩
      refine DW_l 7 rfl (by kernel_rfl) ?_
      refine WL_gy (g := 38) rfl (by decide) rfl ?_
      refine cll (same_ok L K b b' m d m' d' _ (hs.rd (a := b)) hm (hs.rd (a := b')) hm' (by omega)) ?_
      rintro _ w ⟨rfl, hf⟩
      replace hs := hs.call hf
      refine WL_nil ?_
      refine ⟨.inr hs.hold, ?_⟩
      refine DW_qy hs 8 rfl (by kernel_rfl) rfl (by decide) rfl (fun w' hw' => X_eqB rfl rfl) ?_
      refine DW_q hs 9 rfl (by kernel_rfl) (fun w' hw' => X_pickT rfl rfl) ?_
      refine DW_q hs 10 rfl (by kernel_rfl) (fun w' hw' => X_move (v := (.bool _)) rfl) ?_
      refine DW_bT (g := 47) (by decide) rfl ((by simp)) ?_
      refine DW_qy hs 11 rfl (by kernel_rfl) rfl (by decide) rfl (fun w' hw' => X_ldAH hw' rfl (by simp)) ?_
      refine DW_qy hs 12 rfl (by kernel_rfl) rfl (by decide) rfl (fun w' hw' => X_ldAH hw' rfl (by simp)) ?_
      refine DW_qy hs 14 rfl (by kernel_rfl) rfl (by decide) rfl (fun w' hw' => X_move (v := (.int _ _)) rfl) ?_
      refine DW_qy hs 15 rfl (by kernel_rfl) rfl (by decide) rfl (fun w' hw' => X_rem rfl rfl (by omega)) ?_
      refine DW_qy hs 16 rfl (by kernel_rfl) rfl (by decide) rfl (fun w' hw' => X_eql rfl rfl) ?_
      refine DW_l 13 rfl (by kernel_rfl) ?_
      refine WL_gy (g := 47) rfl (by decide) rfl ?_
      refine cll (LEqual_ok L Z b x m d y z _ (hs.rd (a := b)) hm (hs.rd (a := x)) hy (by omega)) ?_
      rintro _ w ⟨rfl, hf⟩
      replace hs := hs.call hf
      rw [hZ]
      refine WL_nil ?_
      refine ⟨.inr hs.hold, ?_⟩
      refine DW_qy hs 17 rfl (by kernel_rfl) rfl (by decide) rfl (fun w' hw' => X_eqB rfl rfl) ?_
      refine DW_q hs 18 rfl (by kernel_rfl) (fun w' hw' => X_pickT rfl rfl) ?_
      refine DW_q hs 19 rfl (by kernel_rfl) (fun w' hw' => X_move (v := (.bool _)) rfl) ?_
      refine DW_bT (g := 56) (by decide) rfl ((by rw [htm]; simp; omega)) ?_
      refine DW_qy hs 20 rfl (by kernel_rfl) rfl (by decide) rfl (fun w' hw' => X_ldAH hw' rfl (by simp)) ?_
      refine DW_qy hs 21 rfl (by kernel_rfl) rfl (by decide) rfl (fun w' hw' => X_ldAH hw' rfl (by simp)) ?_
      refine DW_qy hs 23 rfl (by kernel_rfl) rfl (by decide) rfl (fun w' hw' => X_ldAH hw' rfl (by simp)) ?_
      refine DW_qy hs 24 rfl (by kernel_rfl) rfl (by decide) rfl (fun w' hw' => X_ldAH hw' rfl (by simp)) ?_
      refine DW_l 22 rfl (by kernel_rfl) ?_
      refine WL_gy (g := 56) rfl (by decide) rfl ?_
      refine cll (LEqual_ok Z L x b y z m d _ (hs.rd (a := x)) hy (hs.rd (a := b)) hm (by omega)) ?_
      rintro _ w ⟨rfl, hf⟩
      replace hs := hs.call hf
      rw [hZ2]
      refine WL_nil ?_
      refine ⟨.inr hs.hold, ?_⟩
      refine DW_l 25 rfl (by kernel_rfl) ?_
      refine WL_gy (g := 56) rfl (by decide) rfl ?_
      refine cll (LEqual_ok L Z b x m d y z _ (hs.rd (a := b)) hm (hs.rd (a := x)) hy (by omega)) ?_
      rintro _ w ⟨rfl, hf⟩
      replace hs := hs.call hf
      rw [hZ]
      refine WL_nil ?_
      refine ⟨.inl rfl, ?_⟩
      refine DW_l 26 rfl (by kernel_rfl) ?_
      refine WL_gy (g := 56) rfl (by decide) rfl ?_
      refine WL_v (X_eqB rfl rfl) ?_
      refine WL_nil ?_
      refine ⟨.inr hs.hold, ?_⟩
      refine DW_l 27 rfl (by kernel_rfl) ?_
      first | refine pkT rfl rfl ?_ | refine pkF rfl rfl ?_
      refine WL_nil ?_
      refine ⟨.inr hs.hold, ?_⟩
      refine DW_l 28 rfl (by kernel_rfl) ?_
      refine asp (.bool _) rfl ?_
      refine WL_nil ?_
      refine ⟨.inr hs.hold, ?_⟩
      refine DW_e (by kernel_rfl) ?_
      refine hK7 _ _ ?_
      refine CW_ret ?_
      repeat (first | (with_reducible apply thenF_ret) | (with_reducible apply blockF_ret))
      try simp only [thenF, blockF, reduceIte]
      refine Post_r Tryz.results7 (.tmp rfl .nil) ?_
      try simp only [ev_tmp, ev_const, upd_ap, Nat.reduceLT, Nat.reduceEqDiff, reduceIte]
      exact ⟨by simp, hs.fm⟩
end Go.Proofs.YtkbldndbofbkcaaGreatDoor
/- For any two locks with at most 40 holders, LockEquals returns true: Equal reports whether they are equal (the statement's tied card). No condition. -/
namespace Go.Proofs.YtkbldndbofbkcaaGreatDoor
open Go Go.ChangeShapes Go.WideShapes Go.RowKit
theorem lockEquals_types : ∀ t ∈ Tryz.f7.params.toList, Tryz.prog.readableRec t = true ∧ t < Tryz.prog.types.size := by
  rw [Tryz.params7]; intro t ht; simp at ht
  first | (subst ht; exact ⟨by kernel_rfl, of_decide_eq_true (by kernel_rfl)⟩) | (rcases ht with rfl | rfl <;> exact ⟨by kernel_rfl, of_decide_eq_true (by kernel_rfl)⟩) | (rcases ht with rfl | rfl | rfl <;> exact ⟨by kernel_rfl, of_decide_eq_true (by kernel_rfl)⟩)
set_option maxRecDepth 100000 in
theorem lockEquals_lifted (os : Os) (started : os.Started) (H : Type) (enc : TypeId × Value → H) :
    ReturnsInHanded {} Tryz.checked os 7 .any (fun w args => (Rows.lockEqualsSpec.pre enc Tryz.prog Tryz.f7 [] false w args ∧ laidMetH Tryz.prog laid5 w) ∧ sizedMet enc Tryz.prog Tryz.f7 (OpenSpec.ofChange Rows.lockEqualsSpec) false w args)
      (Rows.lockEqualsSpec.post enc Tryz.prog Tryz.f7 false true false false) := by
  refine returnsInHanded_of_change_and (C := Tryz.checked) (X := fun w _ => laidMetH Tryz.prog laid5 w) (fun _ _ _ hh h => h.of_heap hh) own started (by kernel_rfl) Tryz.func7
    (ChangeSpec.witness_shaped (enc := enc) (C := Tryz.checked) (os := os) (X := fun w _ => laidMetH Tryz.prog laid5 w) false (World.doorLaid Tryz.prog 400 os) #[.agg #[.int .i64 0, .bool false, .slice none 0 0, .string ⟨#[]⟩], .agg #[.int .i64 0, .bool false, .slice none 0 0, .string ⟨#[]⟩], .int .u8 0] 8 rfl (World.shaped_of_RefB (by kernel_rfl) (by kernel_rfl)) (by kernel_rfl) (by kernel_rfl) (by kernel_rfl) (door_met os _)) ?_
  intro W base args ds gs before hval0 hW _ _ _ _
  have hval : ∀ (j : Nat) t v, Tryz.f7.params[j]? = some t → args[j]? = some v → Value.okWide Tryz.prog W .any base t v := hval0
  have hW' := hW
  obtain ⟨p, q, hA0, hV, rfl, _, _⟩ := hW
  have hA : DataW.TrodAll enc Tryz.prog W 0 (fun _ => true) true Tryz.f7.params.toList args.toList ds p := hA0
  rw [Tryz.params7] at hA hval
  obtain ⟨v0, v1, v2, d0, d1, d2, p0, p1, p2, rfl, rfl, rfl, h0, h1, h2⟩ := trodAll_three hA
  obtain ⟨rfl, rfl⟩ := trodVars_none hV
  obtain ⟨ep, sh, a, n, c, bs, t, rfl, hn, hr⟩ := arg_raw (hval 0 _ v0 rfl rfl) h0
  obtain ⟨ep', sh', a', n', c', bs', t', rfl, hn', hr'⟩ := arg_raw (hval 1 _ v1 rfl rfl) h1
  obtain ⟨k, rfl, _⟩ := arg_u8 (hval 2 _ v2 rfl rfl) h2
  exact law_calls rfl rfl lockEquals_types hW' rfl (lockEquals_ok ep sh a n c bs t ep' sh' a' n' c' bs' t' k W hr hn hr' hn')
theorem lockEquals_j1 : Rows.lockEqualsRow.wf (OpenSpec.ofChange Rows.lockEqualsSpec) = true := by kernel_rfl
theorem lockEquals_j4 : Tryz.f7.params.all (Tryz.prog.readableRec ·) = true := by kernel_rfl
theorem lockEquals_j5 : namedTie Tryz.prog Rows.lockEqualsRow.named Rows.lockEqualsSpec.vars = true := by kernel_rfl
theorem lockEquals_j6 : (Rows.lockEqualsRow.stops == []) = true := by kernel_rfl
theorem lockEquals_j8 : (Rows.lockEqualsRow.knobs == []) = true := by kernel_rfl
theorem lockEquals_j10 : (Rows.lockEqualsRow.inPlace == Tryz.prog.inPlace 7) = true := by kernel_rfl
theorem lockEquals_j11 : (Rows.lockEqualsRow.unfollowed == Tryz.prog.unfollowed 7) = true := by kernel_rfl
theorem lockEquals_j12 : (Rows.lockEqualsRow.recurses == Tryz.prog.recurses 7) = true := by kernel_rfl
theorem lockEquals_j13 : (Rows.lockEqualsRow.named == Tryz.prog.varsNamed 7) = true := by kernel_rfl
theorem lockEquals_j14 : (Rows.lockEqualsRow.maps == (Tryz.f7.params.toList ++ Rows.lockEqualsSpec.plain.varTypes Tryz.prog).any (Tryz.prog.mapsRec ·)) = true := by kernel_rfl
theorem lockEquals_j15 : (Rows.lockEqualsRow.ifaces == (Tryz.f7.params.toList ++ Rows.lockEqualsSpec.plain.varTypes Tryz.prog).any (Tryz.prog.ifacesRec ·)) = true := by kernel_rfl
theorem lockEquals_j16 : (Rows.lockEqualsRow.mapsOut == Tryz.prog.mapsAmong Tryz.f7.resultTypes.toList) = true := by kernel_rfl
theorem lockEquals_j17 : (Rows.lockEqualsRow.loops == (Tryz.f7.params.toList ++ Rows.lockEqualsSpec.plain.varTypes Tryz.prog).any (Tryz.prog.loopsFrom ·)) = true := by kernel_rfl
theorem lockEquals_j18 : (Rows.lockEqualsRow.wideKeys == (Tryz.f7.params.toList ++ Rows.lockEqualsSpec.plain.varTypes Tryz.prog ++ Tryz.f7.resultTypes.toList).any (Tryz.prog.wideKeysFrom ·)) = true := by kernel_rfl
theorem lockEquals_j19 : Rows.lockEqualsSpec.vars.all (Tryz.prog.varReadable ·) = true := by kernel_rfl
theorem lockEquals_j20 : Tryz.f7.resultTypes.all (fun t => Tryz.prog.readableRec t && decide (t < Tryz.prog.types.size)) = true := by kernel_rfl
theorem lockEquals_j21 : (Rows.lockEqualsRow.ifacesOut == Tryz.f7.resultTypes.toList.any (Tryz.prog.ifacesRec ·)) = true := by kernel_rfl
theorem lockEquals_j22 : (Rows.lockEqualsRow.loopsOut == Tryz.f7.resultTypes.toList.any (Tryz.prog.loopsFrom ·)) = true := by kernel_rfl
theorem lockEquals_j23 : (Rows.lockEqualsRow.plainKeys == Tryz.prog.plainKeys) = true := p_keys
theorem lockEquals_j24 : Rows.lockEqualsRow.shortTexts.isNone = true := by kernel_rfl
theorem lockEquals_j27 : (Rows.lockEqualsRow.lifted == Tryz.prog.liftsFinal) = true := p_lift
theorem lockEquals_j28 : (Tryz.prog.make == some Rows.lockEqualsRow.make) = true := p_make
theorem lockEquals_j30 : (Rows.lockEqualsRow.pinned == Rows.lockEqualsRow.pinnedBy) = true := by kernel_rfl
theorem lockEquals_j31 : (Rows.lockEqualsRow.veiled == (Tryz.f7.params.toList ++ Rows.lockEqualsSpec.plain.varTypes Tryz.prog ++ Tryz.f7.resultTypes.toList).any (Tryz.prog.veiledRec ·)) = true := by kernel_rfl
theorem lockEquals_j32 : Rows.lockEqualsRow.veiledFits Tryz.prog Tryz.f7.params.toList (Tryz.f7.params.toList ++ Rows.lockEqualsSpec.plain.varTypes Tryz.prog ++ Tryz.f7.resultTypes.toList) = true := by kernel_rfl
theorem lockEquals_joined : joinedFacts Tryz.prog 7 Tryz.f7 Rows.lockEqualsSpec Rows.lockEqualsRow = true :=
  joined_of lockEquals_j1 laidOut p_maps lockEquals_j4 lockEquals_j5 lockEquals_j6 p_stops lockEquals_j8 p_knobs lockEquals_j10 lockEquals_j11 lockEquals_j12 lockEquals_j13 lockEquals_j14 lockEquals_j15 lockEquals_j16 lockEquals_j17 lockEquals_j18 lockEquals_j19 lockEquals_j20 lockEquals_j21 lockEquals_j22 lockEquals_j23 lockEquals_j24 p_heard p_enter lockEquals_j27 lockEquals_j28 rfl rfl lockEquals_j30 lockEquals_j31 lockEquals_j32
theorem lockEquals_named : Tryz.prog.funcNamed "replevin/replevinlaw34.LockEquals" = some 7 := by kernel_rfl
theorem lockEquals_inst : Tryz.f7.isInstance Tryz.prog Rows.lockEqualsRow.origin Rows.lockEqualsRow.targs := of_decide_eq_true (by kernel_rfl)
theorem lockEquals_wrap : Tryz.f7.isWrapper Tryz.prog Rows.lockEqualsRow.wrapper Rows.lockEqualsRow.mainSum := by unfold Func.isWrapper; rw [if_neg (of_decide_eq_false (by kernel_rfl))]; exact ⟨rfl, rfl⟩
theorem lockEquals_said : Rows.LockEqualsSaid :=
  OpenClaim.holds_of_wide 7 Tryz.f7 rfl rfl rfl rfl rfl rfl rfl ⟨rfl, rfl, rfl, rfl, rfl⟩ rfl rfl rfl rfl rfl lockEquals_named Tryz.func7 lockEquals_joined lockEquals_inst lockEquals_wrap (fun os started H enc _ => lockEquals_lifted os started H enc)
theorem lockEquals_want0 : Tryz.prog.wantsStandIn 56 = false := by kernel_rfl
theorem lockEquals_want1 : Tryz.prog.wantsStandIn 5 = false := by kernel_rfl
theorem lockEquals_wf : Rows.lockEqualsRow.wfByText (OpenSpec.ofChange Rows.lockEqualsSpec) = true := by kernel_rfl
theorem lockEquals_goes : false = Rows.lockEqualsRow.goesBy Tryz.prog := by kernel_rfl
theorem lockEquals_plain : ∀ f fn, Tryz.prog.funcNamed "replevin/replevinlaw34.LockEquals" = some f → Tryz.prog.funcs[f]? = some fn → true = Tryz.prog.looks [] ∧ ∀ (j : Nat) t, fn.params[j]? = some t → Tryz.prog.wantsStandIn t = false := fun f fn hf hfn => by
  obtain rfl : f = 7 := (Option.some.inj (lockEquals_named.symm.trans hf)).symm
  obtain rfl : fn = Tryz.f7 := (Option.some.inj (Tryz.func7.symm.trans hfn)).symm
  refine ⟨p_looks, fun j t ht => ?_⟩
  rw [Tryz.params7] at ht
  have hm := List.mem_of_getElem? (by simpa using ht)
  simp at hm
  rcases hm with rfl | rfl
  · exact lockEquals_want0
  · exact lockEquals_want1
theorem lockEquals_holds : Rows.LockEqualsCardSaid :=
  Claim7.holds_tied_plain_at .later [] [.data, .data, .data, .sentinel, .sentinel] true (true, "2a6453758fad6cc53dd7f591497998820b78589a43cd8ac577ef6ff2b26842bc") true
    lockEquals_said (fun _ h => by cases h) lockEquals_wf (fun _ h => by cases h) lockEquals_row_tie rfl ⟨rfl, rfl⟩ p_main rfl lockEquals_plain lockEquals_goes
#print axioms lockEquals_holds
end Go.Proofs.YtkbldndbofbkcaaGreatDoor
