/- object: births. | object.uses. | object: the check of a name. | object: the check of a name. | Names of objects as keys. | object: Word. | object: Compare. | view: what it is in memory. | state: New, tree, Get. | view: New, Get, Has. | view: Has, the calls. -/
import Derived.Test.YtkbldndbofbkcaaGreatDoorMC
import Derived.Test.YtkbldndbofbkcaaGreatDoorMA
import Derived.MapKept
set_option linter.unusedSimpArgs false
set_option linter.unusedVariables false
/- object: births. -/
namespace Go.Proofs.YtkbldndbofbkcaaGreatDoor
open Go Go.RowKit
attribute [local irreducible] WL CW DW Ret RW
def okNum (n : Int) : Bool := decide (0 ≤ n ∧ n ≤ 1073741824)
theorem number_ok (n : Int) (w0 : World) :
    Ret Tryz.prog 120 #[.int .i64 n] w0 fun v w' => v = .bool (okNum n) ∧ Fm [] w0 w' := by
  have hs := St.init w0 []
  refine Ret_enter Tryz.func120 rfl Tryz.ntmps120 (by simp) ?_
  refine CW_seq (fun K1 hK1 => ?_)
  refine CW_region ?_
  refine asp (.bool _) rfl ?_
  refine WL_nil ?_
  refine hK1 _ _ ?_
  refine CW_seq (fun K2 hK2 => ?_)
  refine CW_region ?_
  refine mvp (.int _ _) rfl ?_
  refine geqW rfl rfl ?_
  refine mvp (.bool _) rfl ?_
  refine WL_g (g := 5) rfl (by decide) rfl (fun hg5 => ?_) (fun hg5 => ?_)
  · skip
    refine mvp (.int _ _) rfl ?_
    refine WL_gy (g := 5) rfl (by decide) rfl ?_
    refine leqW rfl rfl ?_
    first | refine pkT rfl rfl ?_ | refine pkF rfl rfl ?_
    refine asp (.bool _) rfl ?_
    refine WL_nil ?_
    refine hK2 _ _ ?_
    refine CW_ret ?_
    repeat (first | (with_reducible apply thenF_ret) | (with_reducible apply blockF_ret))
    try simp only [thenF, blockF, reduceIte]
    refine Post_r Tryz.results120 (.tmp rfl .nil) ?_
    try simp only [ev_tmp, ev_const, upd_ap, Nat.reduceLT, Nat.reduceEqDiff, reduceIte]
    refine ⟨?_, hs.fm⟩
    unfold okNum
    first
      | (simp at hg5; simp; omega)
      | (simp at hg5; simp [hg5]; omega)
      | simp [hg5]
  · skip
    refine WL_gn (g := 5) rfl (by decide) rfl ?_
    first | refine pkT rfl rfl ?_ | refine pkF rfl rfl ?_
    refine asp (.bool _) rfl ?_
    refine WL_nil ?_
    refine hK2 _ _ ?_
    refine CW_ret ?_
    repeat (first | (with_reducible apply thenF_ret) | (with_reducible apply blockF_ret))
    try simp only [thenF, blockF, reduceIte]
    refine Post_r Tryz.results120 (.tmp rfl .nil) ?_
    try simp only [ev_tmp, ev_const, upd_ap, Nat.reduceLT, Nat.reduceEqDiff, reduceIte]
    refine ⟨?_, hs.fm⟩
    unfold okNum
    first
      | (simp at hg5; simp; omega)
      | (simp at hg5; simp [hg5]; omega)
      | simp [hg5]
/-- A birth. -/
structure Bir where
  maker : ByteArray
  num : Int
def birV (b : Bir) : List Value := [.string b.maker, .int .i64 b.num]
def birCheck (b : Bir) : Int := if lvalid b.maker.data.toList = true then (if okNum b.num = true then 0 else 2) else 12
theorem BCheck_ok (b : Bir) (w0 : World) (hb : b.maker.size ≤ 9223372036854775807) :
    Ret Tryz.prog 55 #[.agg (birV b).toArray] w0 fun v w' => v = .int .i64 (birCheck b) ∧ Fm [] w0 w' := by
  have hs := St.init w0 []
  refine Ret_enter Tryz.func55 rfl Tryz.ntmps55 (by simp) ?_
  refine CW_seq (fun K1 hK1 => ?_)
  refine CW_region ?_
  refine bx (.agg (birV b).toArray) (vl := birV b) hs rfl rfl ?_
  intro w g1 hs hg1 hf1
  unfold birV at hs
  refine asp (.int _ _) rfl ?_
  refine WL_nil ?_
  refine hK1 _ _ ?_
  refine CW_seq (fun K2 hK2 => ?_)
  refine CW_block ?_
  refine CW_seq (fun K3 hK3 => ?_)
  refine CW_region ?_
  refine fad rfl ?_
  refine ld hs rfl rfl ?_
  refine cll (Valid_ok b.maker _ hb) ?_
  rintro _ w ⟨rfl, hf⟩
  replace hs := hs.call hf
  refine notW rfl ?_
  refine asp (.bool _) rfl ?_
  refine WL_nil ?_
  refine hK3 _ _ ?_
  refine CW_cond rfl (fun hc3 => ?_) (fun hc3 => ?_)
  · skip
    refine CW_seq (fun K4 hK4 => ?_)
    refine CW_region ?_
    refine asp (.int _ _) rfl ?_
    refine WL_nil ?_
    refine hK4 _ _ ?_
    refine CW_ret ?_
    repeat (first | (with_reducible apply thenF_ret) | (with_reducible apply blockF_ret))
    try simp only [thenF, blockF, reduceIte]
    refine Post_r Tryz.results55 (.tmp rfl .nil) ?_
    try simp only [ev_tmp, ev_const, upd_ap, Nat.reduceLT, Nat.reduceEqDiff, reduceIte]
    refine ⟨?_, hs.fm⟩
    unfold birCheck
    first
      | (simp at hc3 hc8; simp [hc3, hc8]; done)
      | (simp at hc3; simp [hc3]; done)
  · skip
    refine CW_seq (fun K5 hK5 => ?_)
    refine CW_region ?_
    refine fad rfl ?_
    refine ld hs rfl rfl ?_
    refine cll (number_ok b.num _) ?_
    rintro _ w ⟨rfl, hf⟩
    replace hs := hs.call hf
    refine notW rfl ?_
    refine asp (.bool _) rfl ?_
    refine WL_nil ?_
    refine hK5 _ _ ?_
    refine CW_cond rfl (fun hc8 => ?_) (fun hc8 => ?_)
    · skip
      refine CW_seq (fun K6 hK6 => ?_)
      refine CW_region ?_
      refine asp (.int _ _) rfl ?_
      refine WL_nil ?_
      refine hK6 _ _ ?_
      refine CW_ret ?_
      repeat (first | (with_reducible apply thenF_ret) | (with_reducible apply blockF_ret))
      try simp only [thenF, blockF, reduceIte]
      refine Post_r Tryz.results55 (.tmp rfl .nil) ?_
      try simp only [ev_tmp, ev_const, upd_ap, Nat.reduceLT, Nat.reduceEqDiff, reduceIte]
      refine ⟨?_, hs.fm⟩
      unfold birCheck
      first
        | (simp at hc3 hc8; simp [hc3, hc8]; done)
        | (simp at hc3; simp [hc3]; done)
    · skip
      refine CW_skip ?_
      refine hK2 _ _ ?_
      refine CW_seq (fun K7 hK7 => ?_)
      refine CW_region ?_
      refine asp (.int _ _) rfl ?_
      refine WL_nil ?_
      refine hK7 _ _ ?_
      refine CW_ret ?_
      repeat (first | (with_reducible apply thenF_ret) | (with_reducible apply blockF_ret))
      try simp only [thenF, blockF, reduceIte]
      refine Post_r Tryz.results55 (.tmp rfl .nil) ?_
      try simp only [ev_tmp, ev_const, upd_ap, Nat.reduceLT, Nat.reduceEqDiff, reduceIte]
      refine ⟨?_, hs.fm⟩
      unfold birCheck
      first
        | (simp at hc3 hc8; simp [hc3, hc8]; done)
        | (simp at hc3; simp [hc3]; done)
/-- The name of an object. -/
structure ONm where
  kind : Int
  owner : ByteArray
  num : Int
  idx : Int
  text : ByteArray
deriving DecidableEq
def onV (n : ONm) : List Value := [.int .i64 n.kind, .string n.owner, .int .i64 n.num, .int .i64 n.idx, .string n.text]
@[simp] theorem onV_length (n : ONm) : (onV n).length = 5 := rfl
@[simp] theorem birV_length (n : Bir) : (birV n).length = 2 := rfl
theorem of_ok (b : Bir) (k i : Int) (t : ByteArray) (w0 : World) :
    Ret Tryz.prog 119 #[.agg (birV b).toArray, .int .i64 k, .int .i64 i, .string t] w0 fun v w' => v = .agg (onV ⟨k, b.maker, b.num, i, t⟩).toArray ∧ Fm [] w0 w' := by
  have hs := St.init w0 []
  refine Ret_enter Tryz.func119 rfl Tryz.ntmps119 (by simp) ?_
  refine CW_seq (fun K1 hK1 => ?_)
  refine CW_region ?_
  refine bx (.agg (birV b).toArray) (vl := birV b) hs rfl rfl ?_
  intro w g4 hs hg4 hf4
  unfold birV at hs
  refine alc hs ?_
  intro w g8 hs hg8 hf8
  refine WL_nil ?_
  refine hK1 _ _ ?_
  refine CW_seq (fun K2 hK2 => ?_)
  refine CW_region ?_
  refine mvp (.int _ _) rfl ?_
  refine fad rfl ?_
  refine ld hs rfl rfl ?_
  refine fad rfl ?_
  refine ld hs rfl rfl ?_
  refine mvp (.int _ _) rfl ?_
  refine mvp (.string _) rfl ?_
  refine WL_v (v := .agg (onV ⟨k, b.maker, b.num, i, t⟩).toArray) (X_build rfl rfl) ?_
  refine sto (.agg (onV ⟨k, b.maker, b.num, i, t⟩).toArray) (vl := onV ⟨k, b.maker, b.num, i, t⟩) hs rfl rfl rfl rfl (by simp) rfl ?_
  intro w hs _
  replace hs : St w0 [] w (eB g8 true (Blk 93 (onV ⟨k, b.maker, b.num, i, t⟩)) :: _) := hs
  refine WL_nil ?_
  refine hK2 _ _ ?_
  refine CW_ret ?_
  repeat (first | (with_reducible apply thenF_ret) | (with_reducible apply blockF_ret))
  try simp only [thenF, blockF, reduceIte]
  refine Post_r Tryz.results119 (.cell rfl (lvA hs (by simp)) .nil) ?_
  try simp only [ev_tmp, ev_const, upd_ap, Nat.reduceLT, Nat.reduceEqDiff, reduceIte]
  exact ⟨by trivial, hs.fm⟩
theorem OfLock_ok (b : Bir) (w0 : World) :
    Ret Tryz.prog 54 #[.agg (birV b).toArray] w0 fun v w' => v = .agg (onV ⟨12, b.maker, b.num, 0, ⟨#[]⟩⟩).toArray ∧ Fm [] w0 w' := by
  have hs := St.init w0 []
  refine Ret_enter Tryz.func54 rfl Tryz.ntmps54 (by simp) ?_
  refine CW_seq (fun K1 hK1 => ?_)
  refine CW_region ?_
  refine bx (.agg (birV b).toArray) (vl := birV b) hs rfl rfl ?_
  intro w g1 hs hg1 hf1
  unfold birV at hs
  refine alc hs ?_
  intro w g2 hs hg2 hf2
  refine WL_nil ?_
  refine hK1 _ _ ?_
  refine CW_seq (fun K2 hK2 => ?_)
  refine CW_region ?_
  refine ldA hs rfl (by simp) ?_
  refine cll (of_ok b 12 0 ⟨#[]⟩ _) ?_
  rintro _ w ⟨rfl, hf⟩
  replace hs := hs.call hf
  refine sto (.agg (onV ⟨12, b.maker, b.num, 0, ⟨#[]⟩⟩).toArray) (vl := onV ⟨12, b.maker, b.num, 0, ⟨#[]⟩⟩) hs rfl rfl rfl rfl (by simp) rfl ?_
  intro w hs _
  replace hs : St w0 [] w (eB g2 true (Blk 93 (onV ⟨12, b.maker, b.num, 0, ⟨#[]⟩⟩)) :: _) := hs
  refine WL_nil ?_
  refine hK2 _ _ ?_
  refine CW_ret ?_
  repeat (first | (with_reducible apply thenF_ret) | (with_reducible apply blockF_ret))
  try simp only [thenF, blockF, reduceIte]
  refine Post_r Tryz.results54 (.cell rfl (lvA hs (by simp)) .nil) ?_
  try simp only [ev_tmp, ev_const, upd_ap, Nat.reduceLT, Nat.reduceEqDiff, reduceIte]
  exact ⟨by trivial, hs.fm⟩
end Go.Proofs.YtkbldndbofbkcaaGreatDoor
/- object.uses. -/
namespace Go.Proofs.YtkbldndbofbkcaaGreatDoor
open Go Go.RowKit
attribute [local irreducible] WL CW DW Ret RW
/-- What a kind uses. -/
structure Us where
  word : List UInt8
  own : Bool
  num : Bool
  txt : Bool
  most : Int
def usT : List Us := [⟨[], false, false, false, 0⟩,
  ⟨[112, 114, 111, 99, 101, 115, 115], true, false, false, -1⟩,
  ⟨[114, 101, 103, 105, 115, 116, 101, 114, 115], true, false, false, -1⟩,
  ⟨[112, 97, 103, 101], true, false, false, 63⟩,
  ⟨[116, 97, 98, 108, 101], true, false, false, -1⟩,
  ⟨[99, 111, 117, 110, 116, 101, 114], true, false, false, -1⟩,
  ⟨[112, 101, 110, 100, 105, 110, 103], true, false, false, -1⟩,
  ⟨[110, 111, 100, 101], true, true, false, -1⟩,
  ⟨[98, 108, 111, 99, 107], true, true, false, 63⟩,
  ⟨[101, 110, 116, 114, 121], true, true, true, -1⟩,
  ⟨[108, 105, 115, 116, 105, 110, 103], true, true, false, -1⟩,
  ⟨[112, 105, 112, 101], true, true, false, -1⟩,
  ⟨[108, 111, 99, 107], true, true, false, -1⟩,
  ⟨[116, 101, 114, 109, 105, 110, 97, 108], false, true, false, -1⟩,
  ⟨[97, 99, 99, 111, 117, 110, 116], false, false, true, -1⟩,
  ⟨[99, 108, 111, 99, 107], false, false, false, -1⟩,
  ⟨[112, 111, 114, 116], false, true, false, -1⟩,
  ⟨[98, 111, 120], false, false, true, -1⟩,
  ⟨[111, 117, 116], true, true, false, 1073741824⟩,
  ⟨[115, 104, 101, 108, 108], true, false, false, -1⟩,
  ⟨[101, 112, 111, 99, 104], false, false, false, -1⟩]
def usV (u : Us) : List Value := [.string ⟨u.word.toArray⟩, .bool u.own, .bool u.num, .bool u.txt, .int .i64 u.most]
def usA : List Value := (usT.map usV).flatten
theorem X_buildA {P : Program} {N : Nat} {f : Fr} {w : World} {d : Nat} {T A E : TypeId} {p : String} {aft : Array Edge} {k n : Nat} {z : Value} {vl : List Value} {parts : List (Nat × Operand)} [hA : UnE P A (.array k E)] [hn : SzE P E n] (hz : ∀ w, (zeroValue A).run P w = .ok z w) (hzl : z.cells.size = k * n) (hps : BS N f n 0 parts vl) (hk : parts.length = k) :
    Ex P N f w ⟨some d, .build A parts.toArray, T, p, aft, none⟩ (.agg vl.toArray) w := by
  have h1 := fillL_bs hps [] z.cells.toList (by simp) (by simpa [hk] using hzl)
  simp only [List.nil_append] at h1
  have h2 := fill_eq (fun i => some (i * n, n)) (parts.map fun ix => (ix.1, ev N f ix.2)) z.cells.toList
  rw [h1] at h2
  simp only [Array.toArray_toList, Option.map_some] at h2
  have h3 : (parts.toArray.map fun (x : Nat × Operand) => (x.1, ev N f x.2)).toList = parts.map fun ix => (ix.1, ev N f ix.2) := by simp
  simp only [Ex, execOp, Instr.build, Sem.run_bind, hz, Result.andThen_ok, run_underlying hA.h, hn.h]
  simp only [h3, h2]
  simp
def zUs : List Value := (List.replicate 21 [.string ⟨#[]⟩, .bool false, .bool false, .bool false, .int .i64 0]).flatten
instance : ZlE Tryz.prog 234 zUs := ⟨_, Tryz.zeroValue234, by kernel_rfl⟩
@[simp] theorem usA_length : usA.length = 105 := by kernel_rfl
@[simp] theorem zUs_length : zUs.length = 105 := by kernel_rfl
theorem uses_ok (w0 : World) : Ret Tryz.prog 166 #[] w0 fun v w' => v = .agg usA.toArray ∧ Fm [] w0 w' := by
  have hs := St.init w0 []
  refine Ret_enter Tryz.func166 rfl Tryz.ntmps166 (by simp) ?_
  refine CW_seq (fun K1 hK1 => ?_)
  refine CW_region ?_
  refine alc hs ?_
  intro w g0 hs hg0 hf0
  refine WL_nil ?_
  refine hK1 _ _ ?_
  refine CW_seq (fun K2 hK2 => ?_)
  refine CW_region ?_
  refine WL_v (v := .agg (usV ⟨[], false, false, false, 0⟩).toArray) (X_build rfl rfl) ?_
  refine WL_v (v := .agg (usV ⟨[112, 114, 111, 99, 101, 115, 115], true, false, false, -1⟩).toArray) (X_build rfl rfl) ?_
  refine WL_v (v := .agg (usV ⟨[114, 101, 103, 105, 115, 116, 101, 114, 115], true, false, false, -1⟩).toArray) (X_build rfl rfl) ?_
  refine WL_v (v := .agg (usV ⟨[112, 97, 103, 101], true, false, false, 63⟩).toArray) (X_build rfl rfl) ?_
  refine WL_v (v := .agg (usV ⟨[116, 97, 98, 108, 101], true, false, false, -1⟩).toArray) (X_build rfl rfl) ?_
  refine WL_v (v := .agg (usV ⟨[99, 111, 117, 110, 116, 101, 114], true, false, false, -1⟩).toArray) (X_build rfl rfl) ?_
  refine WL_v (v := .agg (usV ⟨[112, 101, 110, 100, 105, 110, 103], true, false, false, -1⟩).toArray) (X_build rfl rfl) ?_
  refine WL_v (v := .agg (usV ⟨[110, 111, 100, 101], true, true, false, -1⟩).toArray) (X_build rfl rfl) ?_
  refine WL_v (v := .agg (usV ⟨[98, 108, 111, 99, 107], true, true, false, 63⟩).toArray) (X_build rfl rfl) ?_
  refine WL_v (v := .agg (usV ⟨[101, 110, 116, 114, 121], true, true, true, -1⟩).toArray) (X_build rfl rfl) ?_
  refine WL_v (v := .agg (usV ⟨[108, 105, 115, 116, 105, 110, 103], true, true, false, -1⟩).toArray) (X_build rfl rfl) ?_
  refine WL_v (v := .agg (usV ⟨[112, 105, 112, 101], true, true, false, -1⟩).toArray) (X_build rfl rfl) ?_
  refine WL_v (v := .agg (usV ⟨[108, 111, 99, 107], true, true, false, -1⟩).toArray) (X_build rfl rfl) ?_
  refine WL_v (v := .agg (usV ⟨[116, 101, 114, 109, 105, 110, 97, 108], false, true, false, -1⟩).toArray) (X_build rfl rfl) ?_
  refine WL_v (v := .agg (usV ⟨[97, 99, 99, 111, 117, 110, 116], false, false, true, -1⟩).toArray) (X_build rfl rfl) ?_
  refine WL_v (v := .agg (usV ⟨[99, 108, 111, 99, 107], false, false, false, -1⟩).toArray) (X_build rfl rfl) ?_
  refine WL_v (v := .agg (usV ⟨[112, 111, 114, 116], false, true, false, -1⟩).toArray) (X_build rfl rfl) ?_
  refine WL_v (v := .agg (usV ⟨[98, 111, 120], false, false, true, -1⟩).toArray) (X_build rfl rfl) ?_
  refine WL_v (v := .agg (usV ⟨[111, 117, 116], true, true, false, 1073741824⟩).toArray) (X_build rfl rfl) ?_
  refine WL_v (v := .agg (usV ⟨[115, 104, 101, 108, 108], true, false, false, -1⟩).toArray) (X_build rfl rfl) ?_
  refine WL_v (v := .agg (usV ⟨[101, 112, 111, 99, 104], false, false, false, -1⟩).toArray) (X_build rfl rfl) ?_
  refine WL_v (v := .agg usA.toArray) (X_buildA (vl := usA) Tryz.zeroValue234 (by kernel_rfl) (BS.ag (vl := usV ⟨[], false, false, false, 0⟩) rfl rfl (BS.ag (vl := usV ⟨[112, 114, 111, 99, 101, 115, 115], true, false, false, -1⟩) rfl rfl (BS.ag (vl := usV ⟨[114, 101, 103, 105, 115, 116, 101, 114, 115], true, false, false, -1⟩) rfl rfl (BS.ag (vl := usV ⟨[112, 97, 103, 101], true, false, false, 63⟩) rfl rfl (BS.ag (vl := usV ⟨[116, 97, 98, 108, 101], true, false, false, -1⟩) rfl rfl (BS.ag (vl := usV ⟨[99, 111, 117, 110, 116, 101, 114], true, false, false, -1⟩) rfl rfl (BS.ag (vl := usV ⟨[112, 101, 110, 100, 105, 110, 103], true, false, false, -1⟩) rfl rfl (BS.ag (vl := usV ⟨[110, 111, 100, 101], true, true, false, -1⟩) rfl rfl (BS.ag (vl := usV ⟨[98, 108, 111, 99, 107], true, true, false, 63⟩) rfl rfl (BS.ag (vl := usV ⟨[101, 110, 116, 114, 121], true, true, true, -1⟩) rfl rfl (BS.ag (vl := usV ⟨[108, 105, 115, 116, 105, 110, 103], true, true, false, -1⟩) rfl rfl (BS.ag (vl := usV ⟨[112, 105, 112, 101], true, true, false, -1⟩) rfl rfl (BS.ag (vl := usV ⟨[108, 111, 99, 107], true, true, false, -1⟩) rfl rfl (BS.ag (vl := usV ⟨[116, 101, 114, 109, 105, 110, 97, 108], false, true, false, -1⟩) rfl rfl (BS.ag (vl := usV ⟨[97, 99, 99, 111, 117, 110, 116], false, false, true, -1⟩) rfl rfl (BS.ag (vl := usV ⟨[99, 108, 111, 99, 107], false, false, false, -1⟩) rfl rfl (BS.ag (vl := usV ⟨[112, 111, 114, 116], false, true, false, -1⟩) rfl rfl (BS.ag (vl := usV ⟨[98, 111, 120], false, false, true, -1⟩) rfl rfl (BS.ag (vl := usV ⟨[111, 117, 116], true, true, false, 1073741824⟩) rfl rfl (BS.ag (vl := usV ⟨[115, 104, 101, 108, 108], true, false, false, -1⟩) rfl rfl (BS.ag (vl := usV ⟨[101, 112, 111, 99, 104], false, false, false, -1⟩) rfl rfl .nil))))))))))))))))))))) rfl) ?_
  refine sto (.agg usA.toArray) (vl := usA) hs rfl rfl rfl rfl (by simp) rfl ?_
  intro w hs _
  replace hs : St w0 [] w [eB g0 true (Blk 234 usA)] := hs
  refine WL_nil ?_
  refine hK2 _ _ ?_
  refine CW_ret ?_
  repeat (first | (with_reducible apply thenF_ret) | (with_reducible apply blockF_ret))
  try simp only [thenF, blockF, reduceIte]
  refine Post_r Tryz.results166 (.cell rfl (lvA hs (by simp)) .nil) ?_
  try simp only [ev_tmp, ev_const, upd_ap, Nat.reduceLT, Nat.reduceEqDiff, reduceIte]
  exact ⟨by trivial, hs.fm⟩
end Go.Proofs.YtkbldndbofbkcaaGreatDoor
/- object: the check of a name. -/
namespace Go.Proofs.YtkbldndbofbkcaaGreatDoor
open Go Go.RowKit
attribute [local irreducible] WL CW DW Ret RW
theorem X_indexA {P : Program} {N : Nat} {f : Fr} {w : World} {d : Nat} {T A E : TypeId} {p : String} {aft : Array Edge} {k n : Nat} {l : List Value} {x y : Operand} {q : IntKind} {i : Int} [hA : UnE P A (.array k E)] [hn : SzE P E n] [hg : AgE P E true] (hx : ev N f x = .agg l.toArray) (hy : ev N f y = .int q i) (h0 : 0 ≤ i) (h1 : i < k) :
    Ex P N f w ⟨some d, .index A x y, T, p, aft, none⟩ (.agg ((l.drop (i.toNat * n)).take n).toArray) w := by
  have h : (Instr.index A (.agg l.toArray) (.int q i)).run P w = .ok (.agg ((l.drop (i.toNat * n)).take n).toArray) w := by
    unfold Instr.index part
    simp only [asIntOf, Sem.run_bind, Sem.run_pure, Result.andThen_ok, run_underlying hA.h, hn.h]
    rw [if_pos ⟨h0, h1⟩]
    simp [hn.h, hg.h, List.extract_eq_take_drop, List.extract_toArray, List.extract]
  simp [Ex, execOp, hx, hy, h]
/-- May a text be that of a name? -/
def oWord (bs : List UInt8) : Bool := decide (bs ≠ []) && decide (bs.length ≤ 32) && bs.all fun c => decide (32 < c.toNat) && decide (c.toNat ≤ 126) && decide (c.toNat ≠ 47)
def usOf (k : Int) : Us := usT.getD k.toNat ⟨[], false, false, false, 0⟩
def onCheck (n : ONm) : Int :=
  if n.kind < 1 ∨ 20 < n.kind then 11 else
  let u := usOf n.kind
  if (u.own = false ∧ n.owner.data.toList ≠ []) ∨ (u.num = false ∧ n.num ≠ 0) ∨ (u.most < 0 ∧ n.idx ≠ 0) ∨ (u.txt = false ∧ n.text.data.toList ≠ []) then 1 else
  if u.own = true ∧ lvalid n.owner.data.toList = false then 12 else
  if okNum n.num = false ∨ n.idx < 0 ∨ max u.most 0 < n.idx then 2 else
  if u.txt = true ∧ oWord n.text.data.toList = false then 12 else 0
end Go.Proofs.YtkbldndbofbkcaaGreatDoor
/- object: the check of a name. -/
namespace Go.Proofs.YtkbldndbofbkcaaGreatDoor
open Go Go.RowKit
attribute [local irreducible] WL CW DW Ret RW
theorem us_at (k : Nat) (hk : k < 21) : (usA.drop (k * 5)).take 5 = usV (usT.getD k ⟨[], false, false, false, 0⟩) := by
  have h : k = 0 ∨ k = 1 ∨ k = 2 ∨ k = 3 ∨ k = 4 ∨ k = 5 ∨ k = 6 ∨ k = 7 ∨ k = 8 ∨ k = 9 ∨ k = 10 ∨ k = 11 ∨ k = 12 ∨ k = 13 ∨ k = 14 ∨ k = 15 ∨ k = 16 ∨ k = 17 ∨ k = 18 ∨ k = 19 ∨ k = 20 := by omega
  rcases h with h | h | h | h | h | h | h | h | h | h | h | h | h | h | h | h | h | h | h | h | h <;> subst h <;> rfl
@[simp] theorem usV_length (u : Us) : (usV u).length = 5 := rfl
def badU (u : Us) (n : ONm) : Bool := (!u.own && decide (n.owner.data.toList ≠ [])) || (!u.num && decide (n.num ≠ 0)) || (decide (u.most < 0) && decide (n.idx ≠ 0)) || (!u.txt && decide (n.text.data.toList ≠ []))
def badN (u : Us) (n : ONm) : Bool := !okNum n.num || decide (n.idx < 0) || decide (n.idx > max u.most 0)
def onCheckB (n : ONm) : Int :=
  if n.kind < 1 ∨ 20 < n.kind then 11 else if badU (usOf n.kind) n = true then 1 else if (usOf n.kind).own = true ∧ lvalid n.owner.data.toList = false then 12 else
  if badN (usOf n.kind) n = true then 2 else if (usOf n.kind).txt = true ∧ oWord n.text.data.toList = false then 12 else 0
theorem NCheck_ok (hW : ∀ (s : ByteArray) (w : World), Ret Tryz.prog 107 #[.string s] w fun v w' => v = .bool (oWord s.data.toList) ∧ Fm [] w w') (n : ONm) (w0 : World) (ho : n.owner.size ≤ 9223372036854775807) :
    Ret Tryz.prog 116 #[.agg (onV n).toArray] w0 fun v w' => v = .int .i64 (onCheckB n) ∧ Fm [] w0 w' := by
  have hs := St.init w0 []
  refine Ret_enter Tryz.func116 rfl Tryz.ntmps116 (by simp) ?_
  refine CW_seq (fun K1 hK1 => ?_)
  refine CW_region ?_
  refine bx (.agg (onV n).toArray) (vl := onV n) hs rfl rfl ?_
  intro w g1 hs hg1 hf1
  unfold onV at hs
  refine asp (.int _ _) rfl ?_
  refine WL_nil ?_
  refine hK1 _ _ ?_
  refine CW_seq (fun K2 hK2 => ?_)
  refine CW_seq (fun K3 hK3 => ?_)
  refine CW_region ?_
  refine fad rfl ?_
  refine ld hs rfl rfl ?_
  refine lssW rfl rfl ?_
  refine mvp (.bool _) rfl ?_
  refine WL_g (g := 7) rfl (by decide) rfl (fun hg7 => ?_) (fun hg7 => ?_)
  · skip
    refine fad rfl ?_
    refine WL_gy (g := 7) rfl (by decide) rfl ?_
    refine ld hs rfl rfl ?_
    refine WL_gy (g := 7) rfl (by decide) rfl ?_
    refine gtrW rfl rfl ?_
    first | refine pkT rfl rfl ?_ | refine pkF rfl rfl ?_
    refine WL_nil ?_
    refine hK3 _ _ ?_
    refine CW_cond rfl (fun hc11 => ?_) (fun hc11 => ?_)
    · skip
      refine CW_seq (fun K4 hK4 => ?_)
      refine CW_region ?_
      refine asp (.int _ _) rfl ?_
      refine WL_nil ?_
      refine hK4 _ _ ?_
      refine CW_ret ?_
      repeat (first | (with_reducible apply thenF_ret) | (with_reducible apply blockF_ret))
      try simp only [thenF, blockF, reduceIte]
      refine Post_r Tryz.results116 (.tmp rfl .nil) ?_
      try simp only [ev_tmp, ev_const, upd_ap, Nat.reduceLT, Nat.reduceEqDiff, reduceIte]
      refine ⟨?_, hs.fm⟩
      unfold onCheckB
      rw [if_pos (by first | (simp at hg7; omega) | (simp at hc11; omega))]
    · skip
      have hk : 1 ≤ n.kind ∧ n.kind ≤ 20 := by
        simp at hg7 hc11; omega
      have hu : (usA.drop (n.kind.toNat * 5)).take 5 = usV (usOf n.kind) := us_at n.kind.toNat (by omega)
      refine CW_skip ?_
      refine hK2 _ _ ?_
      refine CW_cut (fun f w' => ∃ g3 : Nat, f 1 = .pointer (some ⟨g1, 0, none⟩) ∧ f 3 = .pointer (some ⟨g3, 0, none⟩) ∧ St w0 [] w' [eB g3 true (Blk 233 (usV (usOf n.kind))), eB g1 true (Blk 93 (onV n))]) ?_ ?_
      · skip
        refine DW_sH hs 999 ?_
        intro w hs _
        refine DW_q hs 1 rfl (by kernel_rfl) (fun w' hw' => X_fieldAddr rfl rfl) ?_
        refine DW_q hs 2 rfl (by kernel_rfl) (fun w' hw' => X_ldH hw' rfl rfl) ?_
        refine DW_l2 0 4 rfl rfl (by kernel_rfl) ?_ ?_
        · skip
          refine cll (uses_ok _) ?_
          rintro _ w ⟨rfl, hf⟩
          replace hs := hs.call hf
          refine WL_nil ?_
          refine ⟨.inr hs.hold, ?_⟩
          refine DW_q hs 3 rfl (by kernel_rfl) (fun w' hw' => X_indexA (l := usA) rfl rfl (by omega) (by omega)) ?_
          refine DW_l 4 rfl (by kernel_rfl) ?_
          refine alc hs ?_
          intro w g3 hs hg3 hf3
          refine WL_nil ?_
          refine ⟨.inr hs.hold, ?_⟩
          refine DW_l 5 rfl (by kernel_rfl) ?_
          refine sto (.agg ((usA.drop (n.kind.toNat * 5)).take 5).toArray) (vl := (usA.drop (n.kind.toNat * 5)).take 5) hs rfl rfl rfl (by rw [hu]; rfl) (by simp [hu]) (by rw [hu]; rfl) ?_
          intro w hs _
          rw [hu] at hs
          refine WL_nil ?_
          refine ⟨.inr hs.hold, ?_⟩
          refine DW_e (by kernel_rfl) ?_
          exact ⟨g3, rfl, rfl, hs⟩
        · skip
          refine alc hs ?_
          intro w g3 hs hg3 hf3
          refine WL_nil ?_
          refine ⟨.inr hs.hold, ?_⟩
          refine DW_l 0 rfl (by kernel_rfl) ?_
          refine cll (uses_ok _) ?_
          rintro _ w ⟨rfl, hf⟩
          replace hs := hs.call hf
          refine WL_nil ?_
          refine ⟨.inr hs.hold, ?_⟩
          refine DW_q hs 3 rfl (by kernel_rfl) (fun w' hw' => X_indexA (l := usA) rfl rfl (by omega) (by omega)) ?_
          refine DW_l 5 rfl (by kernel_rfl) ?_
          refine sto (.agg ((usA.drop (n.kind.toNat * 5)).take 5).toArray) (vl := (usA.drop (n.kind.toNat * 5)).take 5) hs rfl rfl rfl (by rw [hu]; rfl) (by simp [hu]) (by rw [hu]; rfl) ?_
          intro w hs _
          rw [hu] at hs
          refine WL_nil ?_
          refine ⟨.inr hs.hold, ?_⟩
          refine DW_e (by kernel_rfl) ?_
          exact ⟨g3, rfl, rfl, hs⟩
      · skip
        rintro f w ⟨g3, e1, e3, hs⟩
        refine CW_kn (i := 1) e1 (CW_kn (i := 3) e3 ?_)
        obtain ⟨u, hu2⟩ : ∃ u, usOf n.kind = u := ⟨_, rfl⟩
        rw [hu2] at hs
        unfold usV onV at hs
        refine CW_seq (fun K5 hK5 => ?_)
        refine CW_block ?_
        refine CW_cut (fun f w' => f 1 = .pointer (some ⟨g1, 0, none⟩) ∧ f 3 = .pointer (some ⟨g3, 0, none⟩) ∧ f 16 = .bool (badU u n) ∧ St w0 [] w' [eB g3 true (Blk 233 (usV u)), eB g1 true (Blk 93 (onV n))]) ?_ ?_
        · skip
          refine CW_region ?_
          refine fad rfl ?_
          refine ld hs rfl rfl ?_
          refine notW rfl ?_
          refine mvp (.bool _) rfl ?_
          refine WL_g (g := 20) rfl (by decide) rfl (fun hg20 => ?_) (fun hg20 => ?_)
          · skip
            refine fad rfl ?_
            refine WL_gy (g := 20) rfl (by decide) rfl ?_
            refine ld hs rfl rfl ?_
            refine WL_gy (g := 20) rfl (by decide) rfl ?_
            refine neS rfl rfl ?_
            first | refine pkT rfl rfl ?_ | refine pkF rfl rfl ?_
            refine mvp (.bool _) rfl ?_
            refine WL_g (g := 25) rfl (by decide) rfl (fun hg25 => ?_) (fun hg25 => ?_)
            · skip
              refine fad rfl ?_
              refine WL_gy (g := 25) rfl (by decide) rfl ?_
              refine ld hs rfl rfl ?_
              refine WL_gy (g := 25) rfl (by decide) rfl ?_
              refine notW rfl ?_
              refine WL_gy (g := 25) rfl (by decide) rfl ?_
              refine mvp (.bool _) rfl ?_
              refine WL_g (g := 29) rfl (by decide) rfl (fun hg29 => ?_) (fun hg29 => ?_)
              · skip
                refine fad rfl ?_
                refine WL_gy (g := 29) rfl (by decide) rfl ?_
                refine ld hs rfl rfl ?_
                refine WL_gy (g := 29) rfl (by decide) rfl ?_
                refine neqW rfl rfl ?_
                refine WL_gy (g := 25) rfl (by decide) rfl ?_
                first | refine pkT rfl rfl ?_ | refine pkF rfl rfl ?_
                first | refine pkT rfl rfl ?_ | refine pkF rfl rfl ?_
                refine mvp (.bool _) rfl ?_
                refine WL_g (g := 35) rfl (by decide) rfl (fun hg35 => ?_) (fun hg35 => ?_)
                · skip
                  refine fad rfl ?_
                  refine WL_gy (g := 35) rfl (by decide) rfl ?_
                  refine ld hs rfl rfl ?_
                  refine WL_gy (g := 35) rfl (by decide) rfl ?_
                  refine lssW rfl rfl ?_
                  refine WL_gy (g := 35) rfl (by decide) rfl ?_
                  refine mvp (.bool _) rfl ?_
                  refine WL_g (g := 39) rfl (by decide) rfl (fun hg39 => ?_) (fun hg39 => ?_)
                  · skip
                    refine fad rfl ?_
                    refine WL_gy (g := 39) rfl (by decide) rfl ?_
                    refine ld hs rfl rfl ?_
                    refine WL_gy (g := 39) rfl (by decide) rfl ?_
                    refine neqW rfl rfl ?_
                    refine WL_gy (g := 35) rfl (by decide) rfl ?_
                    first | refine pkT rfl rfl ?_ | refine pkF rfl rfl ?_
                    first | refine pkT rfl rfl ?_ | refine pkF rfl rfl ?_
                    refine mvp (.bool _) rfl ?_
                    refine WL_g (g := 45) rfl (by decide) rfl (fun hg45 => ?_) (fun hg45 => ?_)
                    · skip
                      refine fad rfl ?_
                      refine WL_gy (g := 45) rfl (by decide) rfl ?_
                      refine ld hs rfl rfl ?_
                      refine WL_gy (g := 45) rfl (by decide) rfl ?_
                      refine notW rfl ?_
                      refine WL_gy (g := 45) rfl (by decide) rfl ?_
                      refine mvp (.bool _) rfl ?_
                      refine WL_g (g := 49) rfl (by decide) rfl (fun hg49 => ?_) (fun hg49 => ?_)
                      · skip
                        refine fad rfl ?_
                        refine WL_gy (g := 49) rfl (by decide) rfl ?_
                        refine ld hs rfl rfl ?_
                        refine WL_gy (g := 49) rfl (by decide) rfl ?_
                        refine neS rfl rfl ?_
                        refine WL_gy (g := 45) rfl (by decide) rfl ?_
                        first | refine pkT rfl rfl ?_ | refine pkF rfl rfl ?_
                        first | refine pkT rfl rfl ?_ | refine pkF rfl rfl ?_
                        refine asp (.bool _) rfl ?_
                        refine WL_nil ?_
                        refine ⟨rfl, rfl, ?_, hs⟩
                        simp only [ev_tmp, ev_const, upd_ap, Nat.reduceLT, Nat.reduceEqDiff, reduceIte]
                        clear hs
                        unfold badU
                        simp_all <;> (first | (intros; omega) | (intros; simp_all; done) | grind)
                      · skip
                        refine WL_gn (g := 49) rfl (by decide) rfl ?_
                        refine WL_gn (g := 49) rfl (by decide) rfl ?_
                        refine WL_gy (g := 45) rfl (by decide) rfl ?_
                        first | refine pkT rfl rfl ?_ | refine pkF rfl rfl ?_
                        first | refine pkT rfl rfl ?_ | refine pkF rfl rfl ?_
                        refine asp (.bool _) rfl ?_
                        refine WL_nil ?_
                        refine ⟨rfl, rfl, ?_, hs⟩
                        simp only [ev_tmp, ev_const, upd_ap, Nat.reduceLT, Nat.reduceEqDiff, reduceIte]
                        clear hs
                        unfold badU
                        simp_all <;> (first | (intros; omega) | (intros; simp_all; done) | grind)
                    · skip
                      refine WL_gn (g := 45) rfl (by decide) rfl ?_
                      refine WL_gn (g := 45) rfl (by decide) rfl ?_
                      refine WL_gn (g := 45) rfl (by decide) rfl ?_
                      refine WL_gx (g := 49) rfl (by decide) rfl ?_
                      refine WL_gx (g := 49) rfl (by decide) rfl ?_
                      refine WL_gx (g := 49) rfl (by decide) rfl ?_
                      refine WL_gn (g := 45) rfl (by decide) rfl ?_
                      first | refine pkT rfl rfl ?_ | refine pkF rfl rfl ?_
                      refine asp (.bool _) rfl ?_
                      refine WL_nil ?_
                      refine ⟨rfl, rfl, ?_, hs⟩
                      simp only [ev_tmp, ev_const, upd_ap, Nat.reduceLT, Nat.reduceEqDiff, reduceIte]
                      clear hs
                      unfold badU
                      simp_all <;> (first | (intros; omega) | (intros; simp_all; done) | grind)
                  · skip
                    refine WL_gn (g := 39) rfl (by decide) rfl ?_
                    refine WL_gn (g := 39) rfl (by decide) rfl ?_
                    refine WL_gy (g := 35) rfl (by decide) rfl ?_
                    first | refine pkT rfl rfl ?_ | refine pkF rfl rfl ?_
                    first | refine pkT rfl rfl ?_ | refine pkF rfl rfl ?_
                    refine mvp (.bool _) rfl ?_
                    refine WL_gy (g := 45) rfl (by decide) rfl ?_
                    refine fad rfl ?_
                    refine WL_gy (g := 45) rfl (by decide) rfl ?_
                    refine ld hs rfl rfl ?_
                    refine WL_gy (g := 45) rfl (by decide) rfl ?_
                    refine notW rfl ?_
                    refine WL_gy (g := 45) rfl (by decide) rfl ?_
                    refine mvp (.bool _) rfl ?_
                    refine WL_g (g := 49) rfl (by decide) rfl (fun hg49 => ?_) (fun hg49 => ?_)
                    · skip
                      refine fad rfl ?_
                      refine WL_gy (g := 49) rfl (by decide) rfl ?_
                      refine ld hs rfl rfl ?_
                      refine WL_gy (g := 49) rfl (by decide) rfl ?_
                      refine neS rfl rfl ?_
                      refine WL_gy (g := 45) rfl (by decide) rfl ?_
                      first | refine pkT rfl rfl ?_ | refine pkF rfl rfl ?_
                      first | refine pkT rfl rfl ?_ | refine pkF rfl rfl ?_
                      refine asp (.bool _) rfl ?_
                      refine WL_nil ?_
                      refine ⟨rfl, rfl, ?_, hs⟩
                      simp only [ev_tmp, ev_const, upd_ap, Nat.reduceLT, Nat.reduceEqDiff, reduceIte]
                      clear hs
                      unfold badU
                      simp_all <;> (first | (intros; omega) | (intros; simp_all; done) | grind)
                    · skip
                      refine WL_gn (g := 49) rfl (by decide) rfl ?_
                      refine WL_gn (g := 49) rfl (by decide) rfl ?_
                      refine WL_gy (g := 45) rfl (by decide) rfl ?_
                      first | refine pkT rfl rfl ?_ | refine pkF rfl rfl ?_
                      first | refine pkT rfl rfl ?_ | refine pkF rfl rfl ?_
                      refine asp (.bool _) rfl ?_
                      refine WL_nil ?_
                      refine ⟨rfl, rfl, ?_, hs⟩
                      simp only [ev_tmp, ev_const, upd_ap, Nat.reduceLT, Nat.reduceEqDiff, reduceIte]
                      clear hs
                      unfold badU
                      simp_all <;> (first | (intros; omega) | (intros; simp_all; done) | grind)
                · skip
                  refine WL_gn (g := 35) rfl (by decide) rfl ?_
                  refine WL_gn (g := 35) rfl (by decide) rfl ?_
                  refine WL_gn (g := 35) rfl (by decide) rfl ?_
                  refine WL_gx (g := 39) rfl (by decide) rfl ?_
                  refine WL_gx (g := 39) rfl (by decide) rfl ?_
                  refine WL_gx (g := 39) rfl (by decide) rfl ?_
                  refine WL_gn (g := 35) rfl (by decide) rfl ?_
                  first | refine pkT rfl rfl ?_ | refine pkF rfl rfl ?_
                  refine mvp (.bool _) rfl ?_
                  refine WL_gn (g := 45) rfl (by decide) rfl ?_
                  refine WL_gn (g := 45) rfl (by decide) rfl ?_
                  refine WL_gn (g := 45) rfl (by decide) rfl ?_
                  refine WL_gn (g := 45) rfl (by decide) rfl ?_
                  refine WL_gx (g := 49) rfl (by decide) rfl ?_
                  refine WL_gx (g := 49) rfl (by decide) rfl ?_
                  refine WL_gx (g := 49) rfl (by decide) rfl ?_
                  refine WL_gn (g := 45) rfl (by decide) rfl ?_
                  first | refine pkT rfl rfl ?_ | refine pkF rfl rfl ?_
                  refine asp (.bool _) rfl ?_
                  refine WL_nil ?_
                  refine ⟨rfl, rfl, ?_, hs⟩
                  simp only [ev_tmp, ev_const, upd_ap, Nat.reduceLT, Nat.reduceEqDiff, reduceIte]
                  clear hs
                  unfold badU
                  simp_all <;> (first | (intros; omega) | (intros; simp_all; done) | grind)
              · skip
                refine WL_gn (g := 29) rfl (by decide) rfl ?_
                refine WL_gn (g := 29) rfl (by decide) rfl ?_
                refine WL_gy (g := 25) rfl (by decide) rfl ?_
                first | refine pkT rfl rfl ?_ | refine pkF rfl rfl ?_
                first | refine pkT rfl rfl ?_ | refine pkF rfl rfl ?_
                refine mvp (.bool _) rfl ?_
                refine WL_gy (g := 35) rfl (by decide) rfl ?_
                refine fad rfl ?_
                refine WL_gy (g := 35) rfl (by decide) rfl ?_
                refine ld hs rfl rfl ?_
                refine WL_gy (g := 35) rfl (by decide) rfl ?_
                refine lssW rfl rfl ?_
                refine WL_gy (g := 35) rfl (by decide) rfl ?_
                refine mvp (.bool _) rfl ?_
                refine WL_g (g := 39) rfl (by decide) rfl (fun hg39 => ?_) (fun hg39 => ?_)
                · skip
                  refine fad rfl ?_
                  refine WL_gy (g := 39) rfl (by decide) rfl ?_
                  refine ld hs rfl rfl ?_
                  refine WL_gy (g := 39) rfl (by decide) rfl ?_
                  refine neqW rfl rfl ?_
                  refine WL_gy (g := 35) rfl (by decide) rfl ?_
                  first | refine pkT rfl rfl ?_ | refine pkF rfl rfl ?_
                  first | refine pkT rfl rfl ?_ | refine pkF rfl rfl ?_
                  refine mvp (.bool _) rfl ?_
                  refine WL_g (g := 45) rfl (by decide) rfl (fun hg45 => ?_) (fun hg45 => ?_)
                  · skip
                    refine fad rfl ?_
                    refine WL_gy (g := 45) rfl (by decide) rfl ?_
                    refine ld hs rfl rfl ?_
                    refine WL_gy (g := 45) rfl (by decide) rfl ?_
                    refine notW rfl ?_
                    refine WL_gy (g := 45) rfl (by decide) rfl ?_
                    refine mvp (.bool _) rfl ?_
                    refine WL_g (g := 49) rfl (by decide) rfl (fun hg49 => ?_) (fun hg49 => ?_)
                    · skip
                      refine fad rfl ?_
                      refine WL_gy (g := 49) rfl (by decide) rfl ?_
                      refine ld hs rfl rfl ?_
                      refine WL_gy (g := 49) rfl (by decide) rfl ?_
                      refine neS rfl rfl ?_
                      refine WL_gy (g := 45) rfl (by decide) rfl ?_
                      first | refine pkT rfl rfl ?_ | refine pkF rfl rfl ?_
                      first | refine pkT rfl rfl ?_ | refine pkF rfl rfl ?_
                      refine asp (.bool _) rfl ?_
                      refine WL_nil ?_
                      refine ⟨rfl, rfl, ?_, hs⟩
                      simp only [ev_tmp, ev_const, upd_ap, Nat.reduceLT, Nat.reduceEqDiff, reduceIte]
                      clear hs
                      unfold badU
                      simp_all <;> (first | (intros; omega) | (intros; simp_all; done) | grind)
                    · skip
                      refine WL_gn (g := 49) rfl (by decide) rfl ?_
                      refine WL_gn (g := 49) rfl (by decide) rfl ?_
                      refine WL_gy (g := 45) rfl (by decide) rfl ?_
                      first | refine pkT rfl rfl ?_ | refine pkF rfl rfl ?_
                      first | refine pkT rfl rfl ?_ | refine pkF rfl rfl ?_
                      refine asp (.bool _) rfl ?_
                      refine WL_nil ?_
                      refine ⟨rfl, rfl, ?_, hs⟩
                      simp only [ev_tmp, ev_const, upd_ap, Nat.reduceLT, Nat.reduceEqDiff, reduceIte]
                      clear hs
                      unfold badU
                      simp_all <;> (first | (intros; omega) | (intros; simp_all; done) | grind)
                  · skip
                    refine WL_gn (g := 45) rfl (by decide) rfl ?_
                    refine WL_gn (g := 45) rfl (by decide) rfl ?_
                    refine WL_gn (g := 45) rfl (by decide) rfl ?_
                    refine WL_gx (g := 49) rfl (by decide) rfl ?_
                    refine WL_gx (g := 49) rfl (by decide) rfl ?_
                    refine WL_gx (g := 49) rfl (by decide) rfl ?_
                    refine WL_gn (g := 45) rfl (by decide) rfl ?_
                    first | refine pkT rfl rfl ?_ | refine pkF rfl rfl ?_
                    refine asp (.bool _) rfl ?_
                    refine WL_nil ?_
                    refine ⟨rfl, rfl, ?_, hs⟩
                    simp only [ev_tmp, ev_const, upd_ap, Nat.reduceLT, Nat.reduceEqDiff, reduceIte]
                    clear hs
                    unfold badU
                    simp_all <;> (first | (intros; omega) | (intros; simp_all; done) | grind)
                · skip
                  refine WL_gn (g := 39) rfl (by decide) rfl ?_
                  refine WL_gn (g := 39) rfl (by decide) rfl ?_
                  refine WL_gy (g := 35) rfl (by decide) rfl ?_
                  first | refine pkT rfl rfl ?_ | refine pkF rfl rfl ?_
                  first | refine pkT rfl rfl ?_ | refine pkF rfl rfl ?_
                  refine mvp (.bool _) rfl ?_
                  refine WL_gy (g := 45) rfl (by decide) rfl ?_
                  refine fad rfl ?_
                  refine WL_gy (g := 45) rfl (by decide) rfl ?_
                  refine ld hs rfl rfl ?_
                  refine WL_gy (g := 45) rfl (by decide) rfl ?_
                  refine notW rfl ?_
                  refine WL_gy (g := 45) rfl (by decide) rfl ?_
                  refine mvp (.bool _) rfl ?_
                  refine WL_g (g := 49) rfl (by decide) rfl (fun hg49 => ?_) (fun hg49 => ?_)
                  · skip
                    refine fad rfl ?_
                    refine WL_gy (g := 49) rfl (by decide) rfl ?_
                    refine ld hs rfl rfl ?_
                    refine WL_gy (g := 49) rfl (by decide) rfl ?_
                    refine neS rfl rfl ?_
                    refine WL_gy (g := 45) rfl (by decide) rfl ?_
                    first | refine pkT rfl rfl ?_ | refine pkF rfl rfl ?_
                    first | refine pkT rfl rfl ?_ | refine pkF rfl rfl ?_
                    refine asp (.bool _) rfl ?_
                    refine WL_nil ?_
                    refine ⟨rfl, rfl, ?_, hs⟩
                    simp only [ev_tmp, ev_const, upd_ap, Nat.reduceLT, Nat.reduceEqDiff, reduceIte]
                    clear hs
                    unfold badU
                    simp_all <;> (first | (intros; omega) | (intros; simp_all; done) | grind)
                  · skip
                    refine WL_gn (g := 49) rfl (by decide) rfl ?_
                    refine WL_gn (g := 49) rfl (by decide) rfl ?_
                    refine WL_gy (g := 45) rfl (by decide) rfl ?_
                    first | refine pkT rfl rfl ?_ | refine pkF rfl rfl ?_
                    first | refine pkT rfl rfl ?_ | refine pkF rfl rfl ?_
                    refine asp (.bool _) rfl ?_
                    refine WL_nil ?_
                    refine ⟨rfl, rfl, ?_, hs⟩
                    simp only [ev_tmp, ev_const, upd_ap, Nat.reduceLT, Nat.reduceEqDiff, reduceIte]
                    clear hs
                    unfold badU
                    simp_all <;> (first | (intros; omega) | (intros; simp_all; done) | grind)
            · skip
              refine WL_gn (g := 25) rfl (by decide) rfl ?_
              refine WL_gn (g := 25) rfl (by decide) rfl ?_
              refine WL_gn (g := 25) rfl (by decide) rfl ?_
              refine WL_gx (g := 29) rfl (by decide) rfl ?_
              refine WL_gx (g := 29) rfl (by decide) rfl ?_
              refine WL_gx (g := 29) rfl (by decide) rfl ?_
              refine WL_gn (g := 25) rfl (by decide) rfl ?_
              first | refine pkT rfl rfl ?_ | refine pkF rfl rfl ?_
              refine mvp (.bool _) rfl ?_
              refine WL_gn (g := 35) rfl (by decide) rfl ?_
              refine WL_gn (g := 35) rfl (by decide) rfl ?_
              refine WL_gn (g := 35) rfl (by decide) rfl ?_
              refine WL_gn (g := 35) rfl (by decide) rfl ?_
              refine WL_gx (g := 39) rfl (by decide) rfl ?_
              refine WL_gx (g := 39) rfl (by decide) rfl ?_
              refine WL_gx (g := 39) rfl (by decide) rfl ?_
              refine WL_gn (g := 35) rfl (by decide) rfl ?_
              first | refine pkT rfl rfl ?_ | refine pkF rfl rfl ?_
              refine mvp (.bool _) rfl ?_
              refine WL_gn (g := 45) rfl (by decide) rfl ?_
              refine WL_gn (g := 45) rfl (by decide) rfl ?_
              refine WL_gn (g := 45) rfl (by decide) rfl ?_
              refine WL_gn (g := 45) rfl (by decide) rfl ?_
              refine WL_gx (g := 49) rfl (by decide) rfl ?_
              refine WL_gx (g := 49) rfl (by decide) rfl ?_
              refine WL_gx (g := 49) rfl (by decide) rfl ?_
              refine WL_gn (g := 45) rfl (by decide) rfl ?_
              first | refine pkT rfl rfl ?_ | refine pkF rfl rfl ?_
              refine asp (.bool _) rfl ?_
              refine WL_nil ?_
              refine ⟨rfl, rfl, ?_, hs⟩
              simp only [ev_tmp, ev_const, upd_ap, Nat.reduceLT, Nat.reduceEqDiff, reduceIte]
              clear hs
              unfold badU
              simp_all <;> (first | (intros; omega) | (intros; simp_all; done) | grind)
          · skip
            refine WL_gn (g := 20) rfl (by decide) rfl ?_
            refine WL_gn (g := 20) rfl (by decide) rfl ?_
            first | refine pkT rfl rfl ?_ | refine pkF rfl rfl ?_
            refine mvp (.bool _) rfl ?_
            refine WL_gy (g := 25) rfl (by decide) rfl ?_
            refine fad rfl ?_
            refine WL_gy (g := 25) rfl (by decide) rfl ?_
            refine ld hs rfl rfl ?_
            refine WL_gy (g := 25) rfl (by decide) rfl ?_
            refine notW rfl ?_
            refine WL_gy (g := 25) rfl (by decide) rfl ?_
            refine mvp (.bool _) rfl ?_
            refine WL_g (g := 29) rfl (by decide) rfl (fun hg29 => ?_) (fun hg29 => ?_)
            · skip
              refine fad rfl ?_
              refine WL_gy (g := 29) rfl (by decide) rfl ?_
              refine ld hs rfl rfl ?_
              refine WL_gy (g := 29) rfl (by decide) rfl ?_
              refine neqW rfl rfl ?_
              refine WL_gy (g := 25) rfl (by decide) rfl ?_
              first | refine pkT rfl rfl ?_ | refine pkF rfl rfl ?_
              first | refine pkT rfl rfl ?_ | refine pkF rfl rfl ?_
              refine mvp (.bool _) rfl ?_
              refine WL_g (g := 35) rfl (by decide) rfl (fun hg35 => ?_) (fun hg35 => ?_)
              · skip
                refine fad rfl ?_
                refine WL_gy (g := 35) rfl (by decide) rfl ?_
                refine ld hs rfl rfl ?_
                refine WL_gy (g := 35) rfl (by decide) rfl ?_
                refine lssW rfl rfl ?_
                refine WL_gy (g := 35) rfl (by decide) rfl ?_
                refine mvp (.bool _) rfl ?_
                refine WL_g (g := 39) rfl (by decide) rfl (fun hg39 => ?_) (fun hg39 => ?_)
                · skip
                  refine fad rfl ?_
                  refine WL_gy (g := 39) rfl (by decide) rfl ?_
                  refine ld hs rfl rfl ?_
                  refine WL_gy (g := 39) rfl (by decide) rfl ?_
                  refine neqW rfl rfl ?_
                  refine WL_gy (g := 35) rfl (by decide) rfl ?_
                  first | refine pkT rfl rfl ?_ | refine pkF rfl rfl ?_
                  first | refine pkT rfl rfl ?_ | refine pkF rfl rfl ?_
                  refine mvp (.bool _) rfl ?_
                  refine WL_g (g := 45) rfl (by decide) rfl (fun hg45 => ?_) (fun hg45 => ?_)
                  · skip
                    refine fad rfl ?_
                    refine WL_gy (g := 45) rfl (by decide) rfl ?_
                    refine ld hs rfl rfl ?_
                    refine WL_gy (g := 45) rfl (by decide) rfl ?_
                    refine notW rfl ?_
                    refine WL_gy (g := 45) rfl (by decide) rfl ?_
                    refine mvp (.bool _) rfl ?_
                    refine WL_g (g := 49) rfl (by decide) rfl (fun hg49 => ?_) (fun hg49 => ?_)
                    · skip
                      refine fad rfl ?_
                      refine WL_gy (g := 49) rfl (by decide) rfl ?_
                      refine ld hs rfl rfl ?_
                      refine WL_gy (g := 49) rfl (by decide) rfl ?_
                      refine neS rfl rfl ?_
                      refine WL_gy (g := 45) rfl (by decide) rfl ?_
                      first | refine pkT rfl rfl ?_ | refine pkF rfl rfl ?_
                      first | refine pkT rfl rfl ?_ | refine pkF rfl rfl ?_
                      refine asp (.bool _) rfl ?_
                      refine WL_nil ?_
                      refine ⟨rfl, rfl, ?_, hs⟩
                      simp only [ev_tmp, ev_const, upd_ap, Nat.reduceLT, Nat.reduceEqDiff, reduceIte]
                      clear hs
                      unfold badU
                      simp_all <;> (first | (intros; omega) | (intros; simp_all; done) | grind)
                    · skip
                      refine WL_gn (g := 49) rfl (by decide) rfl ?_
                      refine WL_gn (g := 49) rfl (by decide) rfl ?_
                      refine WL_gy (g := 45) rfl (by decide) rfl ?_
                      first | refine pkT rfl rfl ?_ | refine pkF rfl rfl ?_
                      first | refine pkT rfl rfl ?_ | refine pkF rfl rfl ?_
                      refine asp (.bool _) rfl ?_
                      refine WL_nil ?_
                      refine ⟨rfl, rfl, ?_, hs⟩
                      simp only [ev_tmp, ev_const, upd_ap, Nat.reduceLT, Nat.reduceEqDiff, reduceIte]
                      clear hs
                      unfold badU
                      simp_all <;> (first | (intros; omega) | (intros; simp_all; done) | grind)
                  · skip
                    refine WL_gn (g := 45) rfl (by decide) rfl ?_
                    refine WL_gn (g := 45) rfl (by decide) rfl ?_
                    refine WL_gn (g := 45) rfl (by decide) rfl ?_
                    refine WL_gx (g := 49) rfl (by decide) rfl ?_
                    refine WL_gx (g := 49) rfl (by decide) rfl ?_
                    refine WL_gx (g := 49) rfl (by decide) rfl ?_
                    refine WL_gn (g := 45) rfl (by decide) rfl ?_
                    first | refine pkT rfl rfl ?_ | refine pkF rfl rfl ?_
                    refine asp (.bool _) rfl ?_
                    refine WL_nil ?_
                    refine ⟨rfl, rfl, ?_, hs⟩
                    simp only [ev_tmp, ev_const, upd_ap, Nat.reduceLT, Nat.reduceEqDiff, reduceIte]
                    clear hs
                    unfold badU
                    simp_all <;> (first | (intros; omega) | (intros; simp_all; done) | grind)
                · skip
                  refine WL_gn (g := 39) rfl (by decide) rfl ?_
                  refine WL_gn (g := 39) rfl (by decide) rfl ?_
                  refine WL_gy (g := 35) rfl (by decide) rfl ?_
                  first | refine pkT rfl rfl ?_ | refine pkF rfl rfl ?_
                  first | refine pkT rfl rfl ?_ | refine pkF rfl rfl ?_
                  refine mvp (.bool _) rfl ?_
                  refine WL_gy (g := 45) rfl (by decide) rfl ?_
                  refine fad rfl ?_
                  refine WL_gy (g := 45) rfl (by decide) rfl ?_
                  refine ld hs rfl rfl ?_
                  refine WL_gy (g := 45) rfl (by decide) rfl ?_
                  refine notW rfl ?_
                  refine WL_gy (g := 45) rfl (by decide) rfl ?_
                  refine mvp (.bool _) rfl ?_
                  refine WL_g (g := 49) rfl (by decide) rfl (fun hg49 => ?_) (fun hg49 => ?_)
                  · skip
                    refine fad rfl ?_
                    refine WL_gy (g := 49) rfl (by decide) rfl ?_
                    refine ld hs rfl rfl ?_
                    refine WL_gy (g := 49) rfl (by decide) rfl ?_
                    refine neS rfl rfl ?_
                    refine WL_gy (g := 45) rfl (by decide) rfl ?_
                    first | refine pkT rfl rfl ?_ | refine pkF rfl rfl ?_
                    first | refine pkT rfl rfl ?_ | refine pkF rfl rfl ?_
                    refine asp (.bool _) rfl ?_
                    refine WL_nil ?_
                    refine ⟨rfl, rfl, ?_, hs⟩
                    simp only [ev_tmp, ev_const, upd_ap, Nat.reduceLT, Nat.reduceEqDiff, reduceIte]
                    clear hs
                    unfold badU
                    simp_all <;> (first | (intros; omega) | (intros; simp_all; done) | grind)
                  · skip
                    refine WL_gn (g := 49) rfl (by decide) rfl ?_
                    refine WL_gn (g := 49) rfl (by decide) rfl ?_
                    refine WL_gy (g := 45) rfl (by decide) rfl ?_
                    first | refine pkT rfl rfl ?_ | refine pkF rfl rfl ?_
                    first | refine pkT rfl rfl ?_ | refine pkF rfl rfl ?_
                    refine asp (.bool _) rfl ?_
                    refine WL_nil ?_
                    refine ⟨rfl, rfl, ?_, hs⟩
                    simp only [ev_tmp, ev_const, upd_ap, Nat.reduceLT, Nat.reduceEqDiff, reduceIte]
                    clear hs
                    unfold badU
                    simp_all <;> (first | (intros; omega) | (intros; simp_all; done) | grind)
              · skip
                refine WL_gn (g := 35) rfl (by decide) rfl ?_
                refine WL_gn (g := 35) rfl (by decide) rfl ?_
                refine WL_gn (g := 35) rfl (by decide) rfl ?_
                refine WL_gx (g := 39) rfl (by decide) rfl ?_
                refine WL_gx (g := 39) rfl (by decide) rfl ?_
                refine WL_gx (g := 39) rfl (by decide) rfl ?_
                refine WL_gn (g := 35) rfl (by decide) rfl ?_
                first | refine pkT rfl rfl ?_ | refine pkF rfl rfl ?_
                refine mvp (.bool _) rfl ?_
                refine WL_gn (g := 45) rfl (by decide) rfl ?_
                refine WL_gn (g := 45) rfl (by decide) rfl ?_
                refine WL_gn (g := 45) rfl (by decide) rfl ?_
                refine WL_gn (g := 45) rfl (by decide) rfl ?_
                refine WL_gx (g := 49) rfl (by decide) rfl ?_
                refine WL_gx (g := 49) rfl (by decide) rfl ?_
                refine WL_gx (g := 49) rfl (by decide) rfl ?_
                refine WL_gn (g := 45) rfl (by decide) rfl ?_
                first | refine pkT rfl rfl ?_ | refine pkF rfl rfl ?_
                refine asp (.bool _) rfl ?_
                refine WL_nil ?_
                refine ⟨rfl, rfl, ?_, hs⟩
                simp only [ev_tmp, ev_const, upd_ap, Nat.reduceLT, Nat.reduceEqDiff, reduceIte]
                clear hs
                unfold badU
                simp_all <;> (first | (intros; omega) | (intros; simp_all; done) | grind)
            · skip
              refine WL_gn (g := 29) rfl (by decide) rfl ?_
              refine WL_gn (g := 29) rfl (by decide) rfl ?_
              refine WL_gy (g := 25) rfl (by decide) rfl ?_
              first | refine pkT rfl rfl ?_ | refine pkF rfl rfl ?_
              first | refine pkT rfl rfl ?_ | refine pkF rfl rfl ?_
              refine mvp (.bool _) rfl ?_
              refine WL_gy (g := 35) rfl (by decide) rfl ?_
              refine fad rfl ?_
              refine WL_gy (g := 35) rfl (by decide) rfl ?_
              refine ld hs rfl rfl ?_
              refine WL_gy (g := 35) rfl (by decide) rfl ?_
              refine lssW rfl rfl ?_
              refine WL_gy (g := 35) rfl (by decide) rfl ?_
              refine mvp (.bool _) rfl ?_
              refine WL_g (g := 39) rfl (by decide) rfl (fun hg39 => ?_) (fun hg39 => ?_)
              · skip
                refine fad rfl ?_
                refine WL_gy (g := 39) rfl (by decide) rfl ?_
                refine ld hs rfl rfl ?_
                refine WL_gy (g := 39) rfl (by decide) rfl ?_
                refine neqW rfl rfl ?_
                refine WL_gy (g := 35) rfl (by decide) rfl ?_
                first | refine pkT rfl rfl ?_ | refine pkF rfl rfl ?_
                first | refine pkT rfl rfl ?_ | refine pkF rfl rfl ?_
                refine mvp (.bool _) rfl ?_
                refine WL_g (g := 45) rfl (by decide) rfl (fun hg45 => ?_) (fun hg45 => ?_)
                · skip
                  refine fad rfl ?_
                  refine WL_gy (g := 45) rfl (by decide) rfl ?_
                  refine ld hs rfl rfl ?_
                  refine WL_gy (g := 45) rfl (by decide) rfl ?_
                  refine notW rfl ?_
                  refine WL_gy (g := 45) rfl (by decide) rfl ?_
                  refine mvp (.bool _) rfl ?_
                  refine WL_g (g := 49) rfl (by decide) rfl (fun hg49 => ?_) (fun hg49 => ?_)
                  · skip
                    refine fad rfl ?_
                    refine WL_gy (g := 49) rfl (by decide) rfl ?_
                    refine ld hs rfl rfl ?_
                    refine WL_gy (g := 49) rfl (by decide) rfl ?_
                    refine neS rfl rfl ?_
                    refine WL_gy (g := 45) rfl (by decide) rfl ?_
                    first | refine pkT rfl rfl ?_ | refine pkF rfl rfl ?_
                    first | refine pkT rfl rfl ?_ | refine pkF rfl rfl ?_
                    refine asp (.bool _) rfl ?_
                    refine WL_nil ?_
                    refine ⟨rfl, rfl, ?_, hs⟩
                    simp only [ev_tmp, ev_const, upd_ap, Nat.reduceLT, Nat.reduceEqDiff, reduceIte]
                    clear hs
                    unfold badU
                    simp_all <;> (first | (intros; omega) | (intros; simp_all; done) | grind)
                  · skip
                    refine WL_gn (g := 49) rfl (by decide) rfl ?_
                    refine WL_gn (g := 49) rfl (by decide) rfl ?_
                    refine WL_gy (g := 45) rfl (by decide) rfl ?_
                    first | refine pkT rfl rfl ?_ | refine pkF rfl rfl ?_
                    first | refine pkT rfl rfl ?_ | refine pkF rfl rfl ?_
                    refine asp (.bool _) rfl ?_
                    refine WL_nil ?_
                    refine ⟨rfl, rfl, ?_, hs⟩
                    simp only [ev_tmp, ev_const, upd_ap, Nat.reduceLT, Nat.reduceEqDiff, reduceIte]
                    clear hs
                    unfold badU
                    simp_all <;> (first | (intros; omega) | (intros; simp_all; done) | grind)
                · skip
                  refine WL_gn (g := 45) rfl (by decide) rfl ?_
                  refine WL_gn (g := 45) rfl (by decide) rfl ?_
                  refine WL_gn (g := 45) rfl (by decide) rfl ?_
                  refine WL_gx (g := 49) rfl (by decide) rfl ?_
                  refine WL_gx (g := 49) rfl (by decide) rfl ?_
                  refine WL_gx (g := 49) rfl (by decide) rfl ?_
                  refine WL_gn (g := 45) rfl (by decide) rfl ?_
                  first | refine pkT rfl rfl ?_ | refine pkF rfl rfl ?_
                  refine asp (.bool _) rfl ?_
                  refine WL_nil ?_
                  refine ⟨rfl, rfl, ?_, hs⟩
                  simp only [ev_tmp, ev_const, upd_ap, Nat.reduceLT, Nat.reduceEqDiff, reduceIte]
                  clear hs
                  unfold badU
                  simp_all <;> (first | (intros; omega) | (intros; simp_all; done) | grind)
              · skip
                refine WL_gn (g := 39) rfl (by decide) rfl ?_
                refine WL_gn (g := 39) rfl (by decide) rfl ?_
                refine WL_gy (g := 35) rfl (by decide) rfl ?_
                first | refine pkT rfl rfl ?_ | refine pkF rfl rfl ?_
                first | refine pkT rfl rfl ?_ | refine pkF rfl rfl ?_
                refine mvp (.bool _) rfl ?_
                refine WL_gy (g := 45) rfl (by decide) rfl ?_
                refine fad rfl ?_
                refine WL_gy (g := 45) rfl (by decide) rfl ?_
                refine ld hs rfl rfl ?_
                refine WL_gy (g := 45) rfl (by decide) rfl ?_
                refine notW rfl ?_
                refine WL_gy (g := 45) rfl (by decide) rfl ?_
                refine mvp (.bool _) rfl ?_
                refine WL_g (g := 49) rfl (by decide) rfl (fun hg49 => ?_) (fun hg49 => ?_)
                · skip
                  refine fad rfl ?_
                  refine WL_gy (g := 49) rfl (by decide) rfl ?_
                  refine ld hs rfl rfl ?_
                  refine WL_gy (g := 49) rfl (by decide) rfl ?_
                  refine neS rfl rfl ?_
                  refine WL_gy (g := 45) rfl (by decide) rfl ?_
                  first | refine pkT rfl rfl ?_ | refine pkF rfl rfl ?_
                  first | refine pkT rfl rfl ?_ | refine pkF rfl rfl ?_
                  refine asp (.bool _) rfl ?_
                  refine WL_nil ?_
                  refine ⟨rfl, rfl, ?_, hs⟩
                  simp only [ev_tmp, ev_const, upd_ap, Nat.reduceLT, Nat.reduceEqDiff, reduceIte]
                  clear hs
                  unfold badU
                  simp_all <;> (first | (intros; omega) | (intros; simp_all; done) | grind)
                · skip
                  refine WL_gn (g := 49) rfl (by decide) rfl ?_
                  refine WL_gn (g := 49) rfl (by decide) rfl ?_
                  refine WL_gy (g := 45) rfl (by decide) rfl ?_
                  first | refine pkT rfl rfl ?_ | refine pkF rfl rfl ?_
                  first | refine pkT rfl rfl ?_ | refine pkF rfl rfl ?_
                  refine asp (.bool _) rfl ?_
                  refine WL_nil ?_
                  refine ⟨rfl, rfl, ?_, hs⟩
                  simp only [ev_tmp, ev_const, upd_ap, Nat.reduceLT, Nat.reduceEqDiff, reduceIte]
                  clear hs
                  unfold badU
                  simp_all <;> (first | (intros; omega) | (intros; simp_all; done) | grind)
        · skip
          rintro f w ⟨e1, e3, e16, hs⟩
          refine CW_kn (i := 1) e1 (CW_kn (i := 3) e3 (CW_kn (i := 16) e16 ?_))
          unfold usV onV at hs
          refine CW_cond rfl (fun hc16 => ?_) (fun hc16 => ?_)
          · skip
            refine CW_seq (fun K6 hK6 => ?_)
            refine CW_region ?_
            refine asp (.int _ _) rfl ?_
            refine WL_nil ?_
            refine hK6 _ _ ?_
            refine CW_ret ?_
            repeat (first | (with_reducible apply thenF_ret) | (with_reducible apply blockF_ret))
            try simp only [thenF, blockF, reduceIte]
            refine Post_r Tryz.results116 (.tmp rfl .nil) ?_
            try simp only [ev_tmp, ev_const, upd_ap, Nat.reduceLT, Nat.reduceEqDiff, reduceIte]
            refine ⟨?_, hs.fm⟩
            unfold onCheckB
            rw [if_neg (by omega), hu2]
            clear hs hW
            simp_all
          · skip
            refine CW_seq (fun K7 hK7 => ?_)
            refine CW_region ?_
            refine fad rfl ?_
            refine ld hs rfl rfl ?_
            refine mvp (.bool _) rfl ?_
            refine WL_g (g := 58) rfl (by decide) rfl (fun hg58 => ?_) (fun hg58 => ?_)
            · skip
              refine fad rfl ?_
              refine WL_gy (g := 58) rfl (by decide) rfl ?_
              refine ld hs rfl rfl ?_
              refine WL_gy (g := 58) rfl (by decide) rfl ?_
              refine cll (Valid_ok n.owner _ ho) ?_
              rintro _ w ⟨rfl, hf⟩
              replace hs := hs.call hf
              refine WL_gy (g := 58) rfl (by decide) rfl ?_
              refine notW rfl ?_
              first | refine pkT rfl rfl ?_ | refine pkF rfl rfl ?_
              refine asp (.bool _) rfl ?_
              refine WL_nil ?_
              refine hK7 _ _ ?_
              refine CW_cond rfl (fun hc55 => ?_) (fun hc55 => ?_)
              · skip
                refine CW_seq (fun K8 hK8 => ?_)
                refine CW_region ?_
                refine asp (.int _ _) rfl ?_
                refine WL_nil ?_
                refine hK8 _ _ ?_
                refine CW_ret ?_
                repeat (first | (with_reducible apply thenF_ret) | (with_reducible apply blockF_ret))
                try simp only [thenF, blockF, reduceIte]
                refine Post_r Tryz.results116 (.tmp rfl .nil) ?_
                try simp only [ev_tmp, ev_const, upd_ap, Nat.reduceLT, Nat.reduceEqDiff, reduceIte]
                refine ⟨?_, hs.fm⟩
                unfold onCheckB
                rw [if_neg (by omega), hu2]
                clear hs hW
                simp_all
              · skip
                refine CW_cut (fun f w' => f 1 = .pointer (some ⟨g1, 0, none⟩) ∧ f 3 = .pointer (some ⟨g3, 0, none⟩) ∧ f 64 = .bool (badN u n) ∧ St w0 [] w' [eB g3 true (Blk 233 (usV u)), eB g1 true (Blk 93 (onV n))]) ?_ ?_
                · skip
                  refine CW_region ?_
                  refine fad rfl ?_
                  refine ld hs rfl rfl ?_
                  refine cll (number_ok n.num _) ?_
                  rintro _ w ⟨rfl, hf⟩
                  replace hs := hs.call hf
                  refine notW rfl ?_
                  refine mvp (.bool _) rfl ?_
                  refine WL_g (g := 69) rfl (by decide) rfl (fun hg69 => ?_) (fun hg69 => ?_)
                  · skip
                    refine fad rfl ?_
                    refine WL_gy (g := 69) rfl (by decide) rfl ?_
                    refine ld hs rfl rfl ?_
                    refine WL_gy (g := 69) rfl (by decide) rfl ?_
                    refine lssW rfl rfl ?_
                    first | refine pkT rfl rfl ?_ | refine pkF rfl rfl ?_
                    refine mvp (.bool _) rfl ?_
                    refine WL_g (g := 74) rfl (by decide) rfl (fun hg74 => ?_) (fun hg74 => ?_)
                    · skip
                      refine fad rfl ?_
                      refine WL_gy (g := 74) rfl (by decide) rfl ?_
                      refine ld hs rfl rfl ?_
                      refine WL_gy (g := 74) rfl (by decide) rfl ?_
                      refine fad rfl ?_
                      refine WL_gy (g := 74) rfl (by decide) rfl ?_
                      refine ld hs rfl rfl ?_
                      refine WL_gy (g := 74) rfl (by decide) rfl ?_
                      refine maxW rfl rfl ?_
                      refine WL_gy (g := 74) rfl (by decide) rfl ?_
                      refine gtrW rfl rfl ?_
                      first | refine pkT rfl rfl ?_ | refine pkF rfl rfl ?_
                      refine asp (.bool _) rfl ?_
                      refine WL_nil ?_
                      refine ⟨rfl, rfl, ?_, hs⟩
                      simp only [ev_tmp, ev_const, upd_ap, Nat.reduceLT, Nat.reduceEqDiff, reduceIte]
                      clear hs
                      unfold badN
                      simp_all <;> (first | (intros; omega) | (intros; simp_all; done) | grind)
                    · skip
                      refine WL_gn (g := 74) rfl (by decide) rfl ?_
                      refine WL_gn (g := 74) rfl (by decide) rfl ?_
                      refine WL_gn (g := 74) rfl (by decide) rfl ?_
                      refine WL_gn (g := 74) rfl (by decide) rfl ?_
                      refine WL_gn (g := 74) rfl (by decide) rfl ?_
                      first | refine pkT rfl rfl ?_ | refine pkF rfl rfl ?_
                      refine asp (.bool _) rfl ?_
                      refine WL_nil ?_
                      refine ⟨rfl, rfl, ?_, hs⟩
                      simp only [ev_tmp, ev_const, upd_ap, Nat.reduceLT, Nat.reduceEqDiff, reduceIte]
                      clear hs
                      unfold badN
                      simp_all <;> (first | (intros; omega) | (intros; simp_all; done) | grind)
                  · skip
                    refine WL_gn (g := 69) rfl (by decide) rfl ?_
                    refine WL_gn (g := 69) rfl (by decide) rfl ?_
                    first | refine pkT rfl rfl ?_ | refine pkF rfl rfl ?_
                    refine mvp (.bool _) rfl ?_
                    refine WL_gn (g := 74) rfl (by decide) rfl ?_
                    refine WL_gn (g := 74) rfl (by decide) rfl ?_
                    refine WL_gn (g := 74) rfl (by decide) rfl ?_
                    refine WL_gn (g := 74) rfl (by decide) rfl ?_
                    refine WL_gn (g := 74) rfl (by decide) rfl ?_
                    refine WL_gn (g := 74) rfl (by decide) rfl ?_
                    first | refine pkT rfl rfl ?_ | refine pkF rfl rfl ?_
                    refine asp (.bool _) rfl ?_
                    refine WL_nil ?_
                    refine ⟨rfl, rfl, ?_, hs⟩
                    simp only [ev_tmp, ev_const, upd_ap, Nat.reduceLT, Nat.reduceEqDiff, reduceIte]
                    clear hs
                    unfold badN
                    simp_all <;> (first | (intros; omega) | (intros; simp_all; done) | grind)
                · skip
                  rintro f w ⟨e1, e3, e64, hs⟩
                  refine CW_kn (i := 1) e1 (CW_kn (i := 3) e3 (CW_kn (i := 64) e64 ?_))
                  unfold usV onV at hs
                  refine CW_cond rfl (fun hc64 => ?_) (fun hc64 => ?_)
                  · skip
                    refine CW_seq (fun K9 hK9 => ?_)
                    refine CW_region ?_
                    refine asp (.int _ _) rfl ?_
                    refine WL_nil ?_
                    refine hK9 _ _ ?_
                    refine CW_ret ?_
                    repeat (first | (with_reducible apply thenF_ret) | (with_reducible apply blockF_ret))
                    try simp only [thenF, blockF, reduceIte]
                    refine Post_r Tryz.results116 (.tmp rfl .nil) ?_
                    try simp only [ev_tmp, ev_const, upd_ap, Nat.reduceLT, Nat.reduceEqDiff, reduceIte]
                    refine ⟨?_, hs.fm⟩
                    unfold onCheckB
                    rw [if_neg (by omega), hu2]
                    clear hs hW
                    simp_all
                  · skip
                    refine CW_seq (fun K10 hK10 => ?_)
                    refine CW_region ?_
                    refine fad rfl ?_
                    refine ld hs rfl rfl ?_
                    refine mvp (.bool _) rfl ?_
                    refine WL_g (g := 85) rfl (by decide) rfl (fun hg85 => ?_) (fun hg85 => ?_)
                    · skip
                      refine fad rfl ?_
                      refine WL_gy (g := 85) rfl (by decide) rfl ?_
                      refine ld hs rfl rfl ?_
                      refine WL_gy (g := 85) rfl (by decide) rfl ?_
                      refine cll (hW n.text _) ?_
                      rintro _ w ⟨rfl, hf⟩
                      replace hs := hs.call hf
                      refine WL_gy (g := 85) rfl (by decide) rfl ?_
                      refine notW rfl ?_
                      first | refine pkT rfl rfl ?_ | refine pkF rfl rfl ?_
                      refine asp (.bool _) rfl ?_
                      refine WL_nil ?_
                      refine hK10 _ _ ?_
                      refine CW_cond rfl (fun hc82 => ?_) (fun hc82 => ?_)
                      · skip
                        refine CW_seq (fun K11 hK11 => ?_)
                        refine CW_region ?_
                        refine asp (.int _ _) rfl ?_
                        refine WL_nil ?_
                        refine hK11 _ _ ?_
                        refine CW_ret ?_
                        repeat (first | (with_reducible apply thenF_ret) | (with_reducible apply blockF_ret))
                        try simp only [thenF, blockF, reduceIte]
                        refine Post_r Tryz.results116 (.tmp rfl .nil) ?_
                        try simp only [ev_tmp, ev_const, upd_ap, Nat.reduceLT, Nat.reduceEqDiff, reduceIte]
                        refine ⟨?_, hs.fm⟩
                        unfold onCheckB
                        rw [if_neg (by omega), hu2]
                        clear hs hW
                        simp_all
                      · skip
                        refine CW_skip ?_
                        refine hK5 _ _ ?_
                        refine CW_seq (fun K12 hK12 => ?_)
                        refine CW_region ?_
                        refine asp (.int _ _) rfl ?_
                        refine WL_nil ?_
                        refine hK12 _ _ ?_
                        refine CW_ret ?_
                        repeat (first | (with_reducible apply thenF_ret) | (with_reducible apply blockF_ret))
                        try simp only [thenF, blockF, reduceIte]
                        refine Post_r Tryz.results116 (.tmp rfl .nil) ?_
                        try simp only [ev_tmp, ev_const, upd_ap, Nat.reduceLT, Nat.reduceEqDiff, reduceIte]
                        refine ⟨?_, hs.fm⟩
                        unfold onCheckB
                        rw [if_neg (by omega), hu2]
                        clear hs hW
                        simp_all
                    · skip
                      refine WL_gn (g := 85) rfl (by decide) rfl ?_
                      refine WL_gn (g := 85) rfl (by decide) rfl ?_
                      refine WL_gn (g := 85) rfl (by decide) rfl ?_
                      first | refine pkT rfl rfl ?_ | refine pkF rfl rfl ?_
                      refine asp (.bool _) rfl ?_
                      refine WL_nil ?_
                      refine hK10 _ _ ?_
                      refine CW_condF rfl rfl ?_
                      refine CW_skip ?_
                      refine hK5 _ _ ?_
                      refine CW_seq (fun K13 hK13 => ?_)
                      refine CW_region ?_
                      refine asp (.int _ _) rfl ?_
                      refine WL_nil ?_
                      refine hK13 _ _ ?_
                      refine CW_ret ?_
                      repeat (first | (with_reducible apply thenF_ret) | (with_reducible apply blockF_ret))
                      try simp only [thenF, blockF, reduceIte]
                      refine Post_r Tryz.results116 (.tmp rfl .nil) ?_
                      try simp only [ev_tmp, ev_const, upd_ap, Nat.reduceLT, Nat.reduceEqDiff, reduceIte]
                      refine ⟨?_, hs.fm⟩
                      unfold onCheckB
                      rw [if_neg (by omega), hu2]
                      clear hs hW
                      simp_all
            · skip
              refine WL_gn (g := 58) rfl (by decide) rfl ?_
              refine WL_gn (g := 58) rfl (by decide) rfl ?_
              refine WL_gn (g := 58) rfl (by decide) rfl ?_
              first | refine pkT rfl rfl ?_ | refine pkF rfl rfl ?_
              refine asp (.bool _) rfl ?_
              refine WL_nil ?_
              refine hK7 _ _ ?_
              refine CW_condF rfl rfl ?_
              refine CW_cut (fun f w' => f 1 = .pointer (some ⟨g1, 0, none⟩) ∧ f 3 = .pointer (some ⟨g3, 0, none⟩) ∧ f 64 = .bool (badN u n) ∧ St w0 [] w' [eB g3 true (Blk 233 (usV u)), eB g1 true (Blk 93 (onV n))]) ?_ ?_
              · skip
                refine CW_region ?_
                refine fad rfl ?_
                refine ld hs rfl rfl ?_
                refine cll (number_ok n.num _) ?_
                rintro _ w ⟨rfl, hf⟩
                replace hs := hs.call hf
                refine notW rfl ?_
                refine mvp (.bool _) rfl ?_
                refine WL_g (g := 69) rfl (by decide) rfl (fun hg69 => ?_) (fun hg69 => ?_)
                · skip
                  refine fad rfl ?_
                  refine WL_gy (g := 69) rfl (by decide) rfl ?_
                  refine ld hs rfl rfl ?_
                  refine WL_gy (g := 69) rfl (by decide) rfl ?_
                  refine lssW rfl rfl ?_
                  first | refine pkT rfl rfl ?_ | refine pkF rfl rfl ?_
                  refine mvp (.bool _) rfl ?_
                  refine WL_g (g := 74) rfl (by decide) rfl (fun hg74 => ?_) (fun hg74 => ?_)
                  · skip
                    refine fad rfl ?_
                    refine WL_gy (g := 74) rfl (by decide) rfl ?_
                    refine ld hs rfl rfl ?_
                    refine WL_gy (g := 74) rfl (by decide) rfl ?_
                    refine fad rfl ?_
                    refine WL_gy (g := 74) rfl (by decide) rfl ?_
                    refine ld hs rfl rfl ?_
                    refine WL_gy (g := 74) rfl (by decide) rfl ?_
                    refine maxW rfl rfl ?_
                    refine WL_gy (g := 74) rfl (by decide) rfl ?_
                    refine gtrW rfl rfl ?_
                    first | refine pkT rfl rfl ?_ | refine pkF rfl rfl ?_
                    refine asp (.bool _) rfl ?_
                    refine WL_nil ?_
                    refine ⟨rfl, rfl, ?_, hs⟩
                    simp only [ev_tmp, ev_const, upd_ap, Nat.reduceLT, Nat.reduceEqDiff, reduceIte]
                    clear hs
                    unfold badN
                    simp_all <;> (first | (intros; omega) | (intros; simp_all; done) | grind)
                  · skip
                    refine WL_gn (g := 74) rfl (by decide) rfl ?_
                    refine WL_gn (g := 74) rfl (by decide) rfl ?_
                    refine WL_gn (g := 74) rfl (by decide) rfl ?_
                    refine WL_gn (g := 74) rfl (by decide) rfl ?_
                    refine WL_gn (g := 74) rfl (by decide) rfl ?_
                    first | refine pkT rfl rfl ?_ | refine pkF rfl rfl ?_
                    refine asp (.bool _) rfl ?_
                    refine WL_nil ?_
                    refine ⟨rfl, rfl, ?_, hs⟩
                    simp only [ev_tmp, ev_const, upd_ap, Nat.reduceLT, Nat.reduceEqDiff, reduceIte]
                    clear hs
                    unfold badN
                    simp_all <;> (first | (intros; omega) | (intros; simp_all; done) | grind)
                · skip
                  refine WL_gn (g := 69) rfl (by decide) rfl ?_
                  refine WL_gn (g := 69) rfl (by decide) rfl ?_
                  first | refine pkT rfl rfl ?_ | refine pkF rfl rfl ?_
                  refine mvp (.bool _) rfl ?_
                  refine WL_gn (g := 74) rfl (by decide) rfl ?_
                  refine WL_gn (g := 74) rfl (by decide) rfl ?_
                  refine WL_gn (g := 74) rfl (by decide) rfl ?_
                  refine WL_gn (g := 74) rfl (by decide) rfl ?_
                  refine WL_gn (g := 74) rfl (by decide) rfl ?_
                  refine WL_gn (g := 74) rfl (by decide) rfl ?_
                  first | refine pkT rfl rfl ?_ | refine pkF rfl rfl ?_
                  refine asp (.bool _) rfl ?_
                  refine WL_nil ?_
                  refine ⟨rfl, rfl, ?_, hs⟩
                  simp only [ev_tmp, ev_const, upd_ap, Nat.reduceLT, Nat.reduceEqDiff, reduceIte]
                  clear hs
                  unfold badN
                  simp_all <;> (first | (intros; omega) | (intros; simp_all; done) | grind)
              · skip
                rintro f w ⟨e1, e3, e64, hs⟩
                refine CW_kn (i := 1) e1 (CW_kn (i := 3) e3 (CW_kn (i := 64) e64 ?_))
                unfold usV onV at hs
                refine CW_cond rfl (fun hc64 => ?_) (fun hc64 => ?_)
                · skip
                  refine CW_seq (fun K14 hK14 => ?_)
                  refine CW_region ?_
                  refine asp (.int _ _) rfl ?_
                  refine WL_nil ?_
                  refine hK14 _ _ ?_
                  refine CW_ret ?_
                  repeat (first | (with_reducible apply thenF_ret) | (with_reducible apply blockF_ret))
                  try simp only [thenF, blockF, reduceIte]
                  refine Post_r Tryz.results116 (.tmp rfl .nil) ?_
                  try simp only [ev_tmp, ev_const, upd_ap, Nat.reduceLT, Nat.reduceEqDiff, reduceIte]
                  refine ⟨?_, hs.fm⟩
                  unfold onCheckB
                  rw [if_neg (by omega), hu2]
                  clear hs hW
                  simp_all
                · skip
                  refine CW_seq (fun K15 hK15 => ?_)
                  refine CW_region ?_
                  refine fad rfl ?_
                  refine ld hs rfl rfl ?_
                  refine mvp (.bool _) rfl ?_
                  refine WL_g (g := 85) rfl (by decide) rfl (fun hg85 => ?_) (fun hg85 => ?_)
                  · skip
                    refine fad rfl ?_
                    refine WL_gy (g := 85) rfl (by decide) rfl ?_
                    refine ld hs rfl rfl ?_
                    refine WL_gy (g := 85) rfl (by decide) rfl ?_
                    refine cll (hW n.text _) ?_
                    rintro _ w ⟨rfl, hf⟩
                    replace hs := hs.call hf
                    refine WL_gy (g := 85) rfl (by decide) rfl ?_
                    refine notW rfl ?_
                    first | refine pkT rfl rfl ?_ | refine pkF rfl rfl ?_
                    refine asp (.bool _) rfl ?_
                    refine WL_nil ?_
                    refine hK15 _ _ ?_
                    refine CW_cond rfl (fun hc82 => ?_) (fun hc82 => ?_)
                    · skip
                      refine CW_seq (fun K16 hK16 => ?_)
                      refine CW_region ?_
                      refine asp (.int _ _) rfl ?_
                      refine WL_nil ?_
                      refine hK16 _ _ ?_
                      refine CW_ret ?_
                      repeat (first | (with_reducible apply thenF_ret) | (with_reducible apply blockF_ret))
                      try simp only [thenF, blockF, reduceIte]
                      refine Post_r Tryz.results116 (.tmp rfl .nil) ?_
                      try simp only [ev_tmp, ev_const, upd_ap, Nat.reduceLT, Nat.reduceEqDiff, reduceIte]
                      refine ⟨?_, hs.fm⟩
                      unfold onCheckB
                      rw [if_neg (by omega), hu2]
                      clear hs hW
                      simp_all
                    · skip
                      refine CW_skip ?_
                      refine hK5 _ _ ?_
                      refine CW_seq (fun K17 hK17 => ?_)
                      refine CW_region ?_
                      refine asp (.int _ _) rfl ?_
                      refine WL_nil ?_
                      refine hK17 _ _ ?_
                      refine CW_ret ?_
                      repeat (first | (with_reducible apply thenF_ret) | (with_reducible apply blockF_ret))
                      try simp only [thenF, blockF, reduceIte]
                      refine Post_r Tryz.results116 (.tmp rfl .nil) ?_
                      try simp only [ev_tmp, ev_const, upd_ap, Nat.reduceLT, Nat.reduceEqDiff, reduceIte]
                      refine ⟨?_, hs.fm⟩
                      unfold onCheckB
                      rw [if_neg (by omega), hu2]
                      clear hs hW
                      simp_all
                  · skip
                    refine WL_gn (g := 85) rfl (by decide) rfl ?_
                    refine WL_gn (g := 85) rfl (by decide) rfl ?_
                    refine WL_gn (g := 85) rfl (by decide) rfl ?_
                    first | refine pkT rfl rfl ?_ | refine pkF rfl rfl ?_
                    refine asp (.bool _) rfl ?_
                    refine WL_nil ?_
                    refine hK15 _ _ ?_
                    refine CW_condF rfl rfl ?_
                    refine CW_skip ?_
                    refine hK5 _ _ ?_
                    refine CW_seq (fun K18 hK18 => ?_)
                    refine CW_region ?_
                    refine asp (.int _ _) rfl ?_
                    refine WL_nil ?_
                    refine hK18 _ _ ?_
                    refine CW_ret ?_
                    repeat (first | (with_reducible apply thenF_ret) | (with_reducible apply blockF_ret))
                    try simp only [thenF, blockF, reduceIte]
                    refine Post_r Tryz.results116 (.tmp rfl .nil) ?_
                    try simp only [ev_tmp, ev_const, upd_ap, Nat.reduceLT, Nat.reduceEqDiff, reduceIte]
                    refine ⟨?_, hs.fm⟩
                    unfold onCheckB
                    rw [if_neg (by omega), hu2]
                    clear hs hW
                    simp_all
  · skip
    refine WL_gn (g := 7) rfl (by decide) rfl ?_
    refine WL_gn (g := 7) rfl (by decide) rfl ?_
    first | refine pkT rfl rfl ?_ | refine pkF rfl rfl ?_
    refine WL_nil ?_
    refine hK3 _ _ ?_
    refine CW_condT rfl rfl ?_
    refine CW_seq (fun K19 hK19 => ?_)
    refine CW_region ?_
    refine asp (.int _ _) rfl ?_
    refine WL_nil ?_
    refine hK19 _ _ ?_
    refine CW_ret ?_
    repeat (first | (with_reducible apply thenF_ret) | (with_reducible apply blockF_ret))
    try simp only [thenF, blockF, reduceIte]
    refine Post_r Tryz.results116 (.tmp rfl .nil) ?_
    try simp only [ev_tmp, ev_const, upd_ap, Nat.reduceLT, Nat.reduceEqDiff, reduceIte]
    refine ⟨?_, hs.fm⟩
    unfold onCheckB
    rw [if_pos (by first | (simp at hg7; omega) | (simp at hc11; omega))]
end Go.Proofs.YtkbldndbofbkcaaGreatDoor
/- Names of objects as keys. -/
namespace Go.Proofs.YtkbldndbofbkcaaGreatDoor
open Go Go.RowKit
theorem onm_stood : Tryz.prog.stoodInHeld 93 = false := by kernel_rfl
theorem eq_int {A : TypeId} {q : IntKind} (hA : Tryz.prog.underlying A = some (.int q)) (n : Nat) (k : IntKind) (a b : Int) (w : World) : (Op.equalIn (n + 1) A (.int k a) (.int k b)).run Tryz.prog w = .ok (a == b) w := by
  simp [Op.equalIn, run_underlying hA]
theorem eq_str {A : TypeId} (hA : Tryz.prog.underlying A = some .string) (n : Nat) (a b : ByteArray) (w : World) : (Op.equalIn (n + 1) A (.string a) (.string b)).run Tryz.prog w = .ok (a == b) w := by
  simp [Op.equalIn, run_underlying hA]
theorem equalIn_onm (n : Nat) (a b : ONm) (w : World) : (Op.equalIn (n + 2) 93 (.agg (onV a).toArray) (.agg (onV b).toArray)).run Tryz.prog w = .ok (a.kind == b.kind && a.owner == b.owner && a.num == b.num && a.idx == b.idx && a.text == b.text) w := by
  have hp : ∀ w, (program).run Tryz.prog w = .ok Tryz.prog w := fun _ => rfl
  rw [Op.equalIn]
  simp only [Sem.run_bind, run_underlying Tryz.underlying93, Result.andThen_ok, hp, onm_stood]
  have hg : ∀ (T : TypeId) (cs : Array Value) (k : Nat) (v : Value) (w : World), (isAgg T).run Tryz.prog w = .ok false w → cs[k]? = some v → (part T cs k).run Tryz.prog w = .ok v w := by
    intro T cs k v w h1 h2
    simp [part, h1, h2]
  have ek := fun x y w => eq_int Tryz.underlying3 n .i64 x y w
  have eo := fun x y w => eq_str Tryz.underlying42 n x y w
  have et := fun x y w => eq_str Tryz.underlying9 n x y w
  simp only [Bool.false_eq_true, if_false]
  simp [onV, part, AgE.h, ek, eo, et]
  by_cases h1 : a.kind = b.kind <;> by_cases h2 : (a.owner == b.owner) = true <;> by_cases h3 : a.num = b.num <;> by_cases h4 : a.idx = b.idx <;> by_cases h5 : (a.text == b.text) = true <;> simp_all
theorem onm_eq (a b : ONm) : (a.kind == b.kind && a.owner == b.owner && a.num == b.num && a.idx == b.idx && a.text == b.text) = decide (a = b) := by
  rw [Bool.eq_iff_iff]
  cases a; cases b
  simp [and_assoc, Go.MapKept.bytes_beq]
theorem equal_onm (a b : ONm) (w : World) : (Op.equal 93 (.agg (onV a).toArray) (.agg (onV b).toArray)).run Tryz.prog w = .ok (decide (a = b)) w := by
  rw [← onm_eq]; exact equalIn_onm 9998 a b w
end Go.Proofs.YtkbldndbofbkcaaGreatDoor
/- object: Word. -/
namespace Go.Proofs.YtkbldndbofbkcaaGreatDoor
open Go Go.RowKit
attribute [local irreducible] WL CW DW Ret RW
def goodC (c : UInt8) : Bool := decide (32 < c.toNat) && decide (c.toNat ≤ 126) && decide (c.toNat ≠ 47)
def oddR (c : Int) : Bool := decide (c ≤ 32) || decide (126 < c) || decide (c = 47)
theorem Word1_ok (c : Int) (w0 : World) : Ret Tryz.prog 160 #[.int .i32 c] w0 fun v w' => v = .bool (oddR c) ∧ Fm [] w0 w' := by
  have hs := St.init w0 []
  refine Ret_enter Tryz.func160 rfl Tryz.ntmps160 (by simp) ?_
  refine CW_seq (fun K1 hK1 => ?_)
  refine CW_region ?_
  refine asp (.bool _) rfl ?_
  refine WL_nil ?_
  refine hK1 _ _ ?_
  refine CW_seq (fun K2 hK2 => ?_)
  refine CW_region ?_
  refine mvp (.int _ _) rfl ?_
  refine leqW rfl rfl ?_
  refine mvp (.bool _) rfl ?_
  refine WL_g (g := 5) rfl (by decide) rfl (fun hg5 => ?_) (fun hg5 => ?_)
  · skip
    refine mvp (.int _ _) rfl ?_
    refine WL_gy (g := 5) rfl (by decide) rfl ?_
    refine gtrW rfl rfl ?_
    first | refine pkT rfl rfl ?_ | refine pkF rfl rfl ?_
    refine mvp (.bool _) rfl ?_
    refine WL_g (g := 9) rfl (by decide) rfl (fun hg9 => ?_) (fun hg9 => ?_)
    · skip
      refine mvp (.int _ _) rfl ?_
      refine WL_gy (g := 9) rfl (by decide) rfl ?_
      refine eqlW rfl rfl ?_
      first | refine pkT rfl rfl ?_ | refine pkF rfl rfl ?_
      refine asp (.bool _) rfl ?_
      refine WL_nil ?_
      refine hK2 _ _ ?_
      refine CW_ret ?_
      repeat (first | (with_reducible apply thenF_ret) | (with_reducible apply blockF_ret))
      try simp only [thenF, blockF, reduceIte]
      refine Post_r Tryz.results160 (.tmp rfl .nil) ?_
      try simp only [ev_tmp, ev_const, upd_ap, Nat.reduceLT, Nat.reduceEqDiff, reduceIte]
      refine ⟨?_, hs.fm⟩
      unfold oddR
      simp_all <;> omega
    · skip
      refine WL_gn (g := 9) rfl (by decide) rfl ?_
      first | refine pkT rfl rfl ?_ | refine pkF rfl rfl ?_
      refine asp (.bool _) rfl ?_
      refine WL_nil ?_
      refine hK2 _ _ ?_
      refine CW_ret ?_
      repeat (first | (with_reducible apply thenF_ret) | (with_reducible apply blockF_ret))
      try simp only [thenF, blockF, reduceIte]
      refine Post_r Tryz.results160 (.tmp rfl .nil) ?_
      try simp only [ev_tmp, ev_const, upd_ap, Nat.reduceLT, Nat.reduceEqDiff, reduceIte]
      refine ⟨?_, hs.fm⟩
      unfold oddR
      simp_all <;> omega
  · skip
    refine WL_gn (g := 5) rfl (by decide) rfl ?_
    first | refine pkT rfl rfl ?_ | refine pkF rfl rfl ?_
    refine mvp (.bool _) rfl ?_
    refine WL_gn (g := 9) rfl (by decide) rfl ?_
    refine WL_gn (g := 9) rfl (by decide) rfl ?_
    first | refine pkT rfl rfl ?_ | refine pkF rfl rfl ?_
    refine asp (.bool _) rfl ?_
    refine WL_nil ?_
    refine hK2 _ _ ?_
    refine CW_ret ?_
    repeat (first | (with_reducible apply thenF_ret) | (with_reducible apply blockF_ret))
    try simp only [thenF, blockF, reduceIte]
    refine Post_r Tryz.results160 (.tmp rfl .nil) ?_
    try simp only [ev_tmp, ev_const, upd_ap, Nat.reduceLT, Nat.reduceEqDiff, reduceIte]
    refine ⟨?_, hs.fm⟩
    unfold oddR
    simp_all <;> omega
theorem get!_at (s : ByteArray) (i : Nat) (h : i < s.size) : s.get! i = s.data.toList[i]'(by rw [Array.length_toList]; exact h) := by
  have h' : i < s.data.size := h
  rw [Array.getElem_toList]
  show s.data[i]! = _
  rw [getElem!_pos s.data i h']
theorem indexFunc_ok (s : ByteArray) (w0 : World) (hsz : s.size ≤ 4611686018427387904) :
    Ret Tryz.prog 201 #[.string s, .func (.func 160) #[] #[], .bool true] w0 fun v w' => (∃ r : Int, v = .int .i64 r ∧ decide (0 ≤ r) = !(s.data.toList.all goodC)) ∧ Fm [] w0 w' := by
  have hs := St.init w0 []
  refine Ret_enter Tryz.func201 rfl Tryz.ntmps201 (by simp) ?_
  refine CW_seq (fun K1 hK1 => ?_)
  refine CW_region ?_
  refine asp (.int _ _) rfl ?_
  refine WL_nil ?_
  refine hK1 _ _ ?_
  refine CW_seq (fun K2 hK2 => ?_)
  refine CW_seq (fun K3 hK3 => ?_)
  refine CW_region ?_
  refine mvp (.string _) rfl ?_
  refine W_rangeS hs rfl ?_
  intro w g10 hs hg10 hf10
  refine WL_nil ?_
  refine hK3 _ _ ?_
  refine CW_block ?_
  refine CW_loop (fun k f w' => ∃ pos : Nat, k = s.size - pos ∧ pos ≤ s.size ∧ f 1 = .func (.func 160) #[] #[] ∧ f 2 = .bool true ∧ f 10 = .pointer (some ⟨g10, 0, none⟩) ∧ (s.data.toList.take pos).all goodC = true ∧ St w0 [] w' [eB g10 true (.stringIter s pos)]) s.size ?_ ?_
  · exact ⟨0, by omega, by omega, rfl, rfl, rfl, by simp, hs⟩
  · rintro k f w1 ⟨pos, rfl, hpos, e1, e2, e10, hall, hs⟩
    refine CW_kn (i := 1) e1 (CW_kn (i := 2) e2 (CW_kn (i := 10) e10 ?_))
    refine CW_seq (fun K4 hK4 => ?_)
    refine CW_region ?_
    refine W_nextS hs rfl ?_
    intro w hs
    refine ext (v := .bool (decide (pos < s.size))) rfl rfl ?_
    refine WL_nil ?_
    refine hK4 _ _ ?_
    refine CW_seq (fun K5 hK5 => ?_)
    refine CW_cond rfl (fun hc12 => ?_) (fun hc12 => ?_)
    · have hp : pos < s.size := by simpa using hc12
      rw [if_pos hp] at hs
      refine CW_skip ?_
      refine hK5 _ _ ?_
      refine CW_block ?_
      refine CW_seq (fun K6 hK6 => ?_)
      refine CW_region ?_
      refine ext (v := .int .i64 pos) rfl (by rw [if_pos hp]; rfl) ?_
      refine ext (v := .int .i32 ((Utf8.decode s pos).1 : Nat)) rfl (by rw [if_pos hp]; rfl) ?_
      refine asp (.int _ _) rfl ?_
      refine asp (.int _ _) rfl ?_
      refine WL_nil ?_
      refine hK6 _ _ ?_
      refine CW_seq (fun K7 hK7 => ?_)
      refine CW_region ?_
      apply mv
      refine mvp (.int _ _) rfl ?_
      refine clv (fn := 160) (first := []) (cap := []) rfl (Word1_ok _ _) ?_
      rintro _ w ⟨rfl, hf⟩
      replace hs := hs.call hf
      refine mvp (.bool _) rfl ?_
      refine WL_v (v := .bool (oddR ((Utf8.decode s pos).1 : Nat))) (X_eqTrue rfl rfl) ?_
      refine WL_nil ?_
      refine hK7 _ _ ?_
      refine CW_cond rfl (fun hc19 => ?_) (fun hc19 => ?_)
      · skip
        refine CW_seq (fun K8 hK8 => ?_)
        refine CW_region ?_
        refine mvp (.int _ _) rfl ?_
        refine asp (.int _ _) rfl ?_
        refine WL_nil ?_
        refine hK8 _ _ ?_
        refine CW_ret ?_
        repeat (first | (with_reducible apply thenF_ret) | (with_reducible apply blockF_ret))
        try simp only [thenF, blockF, reduceIte]
        refine Post_r Tryz.results201 (.tmp rfl .nil) ?_
        try simp only [ev_tmp, ev_const, upd_ap, Nat.reduceLT, Nat.reduceEqDiff, reduceIte]
        refine ⟨⟨(pos : Int), rfl, ?_⟩, hs.fm⟩
        have hb : ¬ goodC (s.data.toList[pos]'(by rw [Array.length_toList]; exact hp)) = true := by
          rw [← get!_at s pos hp]
          intro hg
          simp only [goodC, Bool.and_eq_true, decide_eq_true_eq] at hg
          have hd := decode_lo (s := s) (i := pos) (by omega)
          rw [hd] at hc19
          simp [oddR] at hc19
          omega
        have : s.data.toList.all goodC = false := by
          rw [List.all_eq_false]
          exact ⟨_, List.getElem_mem _, hb⟩
        rw [this]; simp
      · skip
        refine CW_skip ?_
        skip
        have hlo : (s.get! pos).toNat < 128 := by
          rcases Nat.lt_or_ge (s.get! pos).toNat 128 with h | h
          · exact h
          · have := decode_hi h
            simp [oddR] at hc19
            omega
        have hd := decode_lo hlo
        rw [hd] at hc19 hs
        refine ⟨s.size - (pos + 1), by omega, pos + 1, rfl, by omega, rfl, rfl, rfl, ?_, hs⟩
        rw [List.take_add_one, List.getElem?_eq_getElem (by rw [Array.length_toList]; exact hp), List.all_append, hall, ← get!_at s pos hp]
        simp [oddR] at hc19
        simp [goodC]; omega
    · skip
      refine CW_exit ?_
      refine hK2 _ _ ?_
      refine CW_seq (fun K9 hK9 => ?_)
      refine CW_region ?_
      refine asp (.int _ _) rfl ?_
      refine WL_nil ?_
      refine hK9 _ _ ?_
      refine CW_ret ?_
      repeat (first | (with_reducible apply thenF_ret) | (with_reducible apply blockF_ret))
      try simp only [thenF, blockF, reduceIte]
      refine Post_r Tryz.results201 (.tmp rfl .nil) ?_
      try simp only [ev_tmp, ev_const, upd_ap, Nat.reduceLT, Nat.reduceEqDiff, reduceIte]
      refine ⟨⟨-1, rfl, ?_⟩, hs.fm⟩
      have hp : ¬ pos < s.size := by simpa using hc12
      rw [List.take_of_length_le (by rw [Array.length_toList]; show s.size ≤ pos; omega)] at hall
      rw [hall]; rfl
theorem IndexFunc_ok (s : ByteArray) (w0 : World) (hsz : s.size ≤ 4611686018427387904) :
    Ret Tryz.prog 185 #[.string s, .func (.func 160) #[] #[]] w0 fun v w' => (∃ r : Int, v = .int .i64 r ∧ decide (0 ≤ r) = !(s.data.toList.all goodC)) ∧ Fm [] w0 w' := by
  have hs := St.init w0 []
  refine Ret_enter Tryz.func185 rfl Tryz.ntmps185 (by simp) ?_
  refine CW_seq (fun K1 hK1 => ?_)
  refine CW_region ?_
  refine asp (.int _ _) rfl ?_
  refine WL_nil ?_
  refine hK1 _ _ ?_
  refine CW_seq (fun K2 hK2 => ?_)
  refine CW_region ?_
  refine mvp (.string _) rfl ?_
  apply mv
  refine cll (indexFunc_ok s _ hsz) ?_
  rintro _ w ⟨⟨r, rfl, hr⟩, hf⟩
  replace hs := hs.call hf
  refine asp (.int _ _) rfl ?_
  refine WL_nil ?_
  refine hK2 _ _ ?_
  refine CW_ret ?_
  repeat (first | (with_reducible apply thenF_ret) | (with_reducible apply blockF_ret))
  try simp only [thenF, blockF, reduceIte]
  refine Post_r Tryz.results185 (.tmp rfl .nil) ?_
  try simp only [ev_tmp, ev_const, upd_ap, Nat.reduceLT, Nat.reduceEqDiff, reduceIte]
  exact ⟨⟨r, rfl, hr⟩, hs.fm⟩
theorem ContainsFunc_ok (s : ByteArray) (w0 : World) (hsz : s.size ≤ 4611686018427387904) :
    Ret Tryz.prog 161 #[.string s, .func (.func 160) #[] #[]] w0 fun v w' => v = .bool (!(s.data.toList.all goodC)) ∧ Fm [] w0 w' := by
  have hs := St.init w0 []
  refine Ret_enter Tryz.func161 rfl Tryz.ntmps161 (by simp) ?_
  refine CW_seq (fun K1 hK1 => ?_)
  refine CW_region ?_
  refine asp (.bool _) rfl ?_
  refine WL_nil ?_
  refine hK1 _ _ ?_
  refine CW_seq (fun K2 hK2 => ?_)
  refine CW_region ?_
  refine mvp (.string _) rfl ?_
  apply mv
  refine cll (IndexFunc_ok s _ hsz) ?_
  rintro _ w ⟨⟨r, rfl, hr⟩, hf⟩
  replace hs := hs.call hf
  refine geqW rfl rfl ?_
  refine asp (.bool _) rfl ?_
  refine WL_nil ?_
  refine hK2 _ _ ?_
  refine CW_ret ?_
  repeat (first | (with_reducible apply thenF_ret) | (with_reducible apply blockF_ret))
  try simp only [thenF, blockF, reduceIte]
  refine Post_r Tryz.results161 (.tmp rfl .nil) ?_
  try simp only [ev_tmp, ev_const, upd_ap, Nat.reduceLT, Nat.reduceEqDiff, reduceIte]
  exact ⟨by rw [← hr], hs.fm⟩
theorem Word_ok (s : ByteArray) (w0 : World) : Ret Tryz.prog 107 #[.string s] w0 fun v w' => v = .bool (oWord s.data.toList) ∧ Fm [] w0 w' := by
  have hs := St.init w0 []
  refine Ret_enter Tryz.func107 rfl Tryz.ntmps107 (by simp) ?_
  refine CW_seq (fun K1 hK1 => ?_)
  refine CW_region ?_
  refine asp (.bool _) rfl ?_
  refine WL_nil ?_
  refine hK1 _ _ ?_
  refine CW_seq (fun K2 hK2 => ?_)
  refine CW_region ?_
  apply asg
  refine WL_nil ?_
  refine hK2 _ _ ?_
  refine CW_seq (fun K3 hK3 => ?_)
  refine CW_region ?_
  refine mvp (.string _) rfl ?_
  refine neS rfl rfl ?_
  refine mvp (.bool _) rfl ?_
  refine WL_g (g := 6) rfl (by decide) rfl (fun hg6 => ?_) (fun hg6 => ?_)
  · skip
    refine mvp (.string _) rfl ?_
    refine WL_gy (g := 6) rfl (by decide) rfl ?_
    refine lenS rfl ?_
    refine WL_gy (g := 6) rfl (by decide) rfl ?_
    refine leqW rfl rfl ?_
    first | refine pkT rfl rfl ?_ | refine pkF rfl rfl ?_
    refine mvp (.bool _) rfl ?_
    refine WL_g (g := 11) rfl (by decide) rfl (fun hg11 => ?_) (fun hg11 => ?_)
    · skip
      refine mvp (.string _) rfl ?_
      refine WL_gy (g := 11) rfl (by decide) rfl ?_
      apply mv
      refine WL_gy (g := 11) rfl (by decide) rfl ?_
      refine cll (ContainsFunc_ok s _ (by simp at *; omega)) ?_
      rintro _ w ⟨rfl, hf⟩
      replace hs := hs.call hf
      refine WL_gy (g := 11) rfl (by decide) rfl ?_
      refine notW rfl ?_
      first | refine pkT rfl rfl ?_ | refine pkF rfl rfl ?_
      refine asp (.bool _) rfl ?_
      refine WL_nil ?_
      refine hK3 _ _ ?_
      refine CW_ret ?_
      repeat (first | (with_reducible apply thenF_ret) | (with_reducible apply blockF_ret))
      try simp only [thenF, blockF, reduceIte]
      refine Post_r Tryz.results107 (.tmp rfl .nil) ?_
      try simp only [ev_tmp, ev_const, upd_ap, Nat.reduceLT, Nat.reduceEqDiff, reduceIte]
      refine ⟨?_, hs.fm⟩
      have ht : s.data.toList.length = s.size := by rw [Array.length_toList]; rfl
      have e2 : ∀ bs, oWord bs = (decide (bs ≠ []) && decide (bs.length ≤ 32) && bs.all goodC) := fun _ => rfl
      rw [e2, ht]
      first
        | (have h6 : s.data.toList ≠ [] := by simpa using hg6
           have h11 : s.size ≤ 32 := by simp at hg11; omega
           rw [decide_eq_true h6, decide_eq_true h11]; simp; done)
        | (have h11 : ¬ s.size ≤ 32 := by simp at hg11; omega
           rw [decide_eq_false h11]; simp; done)
        | (have h6 : s.data.toList = [] := by simpa using hg6
           rw [h6]; simp; done)
    · skip
      refine WL_gn (g := 11) rfl (by decide) rfl ?_
      refine WL_gn (g := 11) rfl (by decide) rfl ?_
      refine WL_gn (g := 11) rfl (by decide) rfl ?_
      first | refine pkT rfl rfl ?_ | refine pkF rfl rfl ?_
      refine asp (.bool _) rfl ?_
      refine WL_nil ?_
      refine hK3 _ _ ?_
      refine CW_ret ?_
      repeat (first | (with_reducible apply thenF_ret) | (with_reducible apply blockF_ret))
      try simp only [thenF, blockF, reduceIte]
      refine Post_r Tryz.results107 (.tmp rfl .nil) ?_
      try simp only [ev_tmp, ev_const, upd_ap, Nat.reduceLT, Nat.reduceEqDiff, reduceIte]
      refine ⟨?_, hs.fm⟩
      have ht : s.data.toList.length = s.size := by rw [Array.length_toList]; rfl
      have e2 : ∀ bs, oWord bs = (decide (bs ≠ []) && decide (bs.length ≤ 32) && bs.all goodC) := fun _ => rfl
      rw [e2, ht]
      first
        | (have h6 : s.data.toList ≠ [] := by simpa using hg6
           have h11 : s.size ≤ 32 := by simp at hg11; omega
           rw [decide_eq_true h6, decide_eq_true h11]; simp; done)
        | (have h11 : ¬ s.size ≤ 32 := by simp at hg11; omega
           rw [decide_eq_false h11]; simp; done)
        | (have h6 : s.data.toList = [] := by simpa using hg6
           rw [h6]; simp; done)
  · skip
    refine WL_gn (g := 6) rfl (by decide) rfl ?_
    refine WL_gn (g := 6) rfl (by decide) rfl ?_
    first | refine pkT rfl rfl ?_ | refine pkF rfl rfl ?_
    refine mvp (.bool _) rfl ?_
    refine WL_gn (g := 11) rfl (by decide) rfl ?_
    refine WL_gn (g := 11) rfl (by decide) rfl ?_
    refine WL_gn (g := 11) rfl (by decide) rfl ?_
    refine WL_gn (g := 11) rfl (by decide) rfl ?_
    first | refine pkT rfl rfl ?_ | refine pkF rfl rfl ?_
    refine asp (.bool _) rfl ?_
    refine WL_nil ?_
    refine hK3 _ _ ?_
    refine CW_ret ?_
    repeat (first | (with_reducible apply thenF_ret) | (with_reducible apply blockF_ret))
    try simp only [thenF, blockF, reduceIte]
    refine Post_r Tryz.results107 (.tmp rfl .nil) ?_
    try simp only [ev_tmp, ev_const, upd_ap, Nat.reduceLT, Nat.reduceEqDiff, reduceIte]
    refine ⟨?_, hs.fm⟩
    have ht : s.data.toList.length = s.size := by rw [Array.length_toList]; rfl
    have e2 : ∀ bs, oWord bs = (decide (bs ≠ []) && decide (bs.length ≤ 32) && bs.all goodC) := fun _ => rfl
    rw [e2, ht]
    first
      | (have h6 : s.data.toList ≠ [] := by simpa using hg6
         have h11 : s.size ≤ 32 := by simp at hg11; omega
         rw [decide_eq_true h6, decide_eq_true h11]; simp; done)
      | (have h11 : ¬ s.size ≤ 32 := by simp at hg11; omega
         rw [decide_eq_false h11]; simp; done)
      | (have h6 : s.data.toList = [] := by simpa using hg6
         rw [h6]; simp; done)
end Go.Proofs.YtkbldndbofbkcaaGreatDoor
/- object: Compare. -/
namespace Go.Proofs.YtkbldndbofbkcaaGreatDoor
open Go Go.RowKit
attribute [local irreducible] WL CW DW Ret RW
def iv (l : List Int) : List Value := l.map fun n => Value.int .i64 n
@[simp] theorem iv_length (l : List Int) : (iv l).length = l.length := by simp [iv]
theorem iv_at {w : World} {a : Option Addr} {n : Nat} {l : List Int} (h : Rd w a n 1 (iv l)) {i : Nat} (hi : i < l.length) : ∃ b off, a = some ⟨b, off, none⟩ ∧ w.cell? ⟨b, off + i * 1, none⟩ = some (.int .i64 l[i]) := by
  obtain ⟨b, off, e, hc⟩ := h.2 (by intro hq; simp [iv] at hq; subst hq; simp at hi)
  exact ⟨b, off, e, by rw [Nat.mul_one]; exact hc i _ (by simp [iv, hi])⟩
/-- The first that is not 0. -/
def orI : List Int → Int
  | [] => 0
  | x :: l => if x ≠ 0 then x else orI l
theorem Or_ok (a : Option Addr) (n c : Nat) (l : List Int) (w0 : World) (hr : Rd w0 a n 1 (iv l)) (hn : n = l.length) (hl : n ≤ 9223372036854775807) :
    Ret Tryz.prog 188 #[.slice a n c] w0 fun v w' => v = .int .i64 (orI l) ∧ Fm [] w0 w' := by
  have hs := St.init w0 []
  refine Ret_enter Tryz.func188 rfl Tryz.ntmps188 (by simp) ?_
  refine CW_seq (fun K1 hK1 => ?_)
  refine CW_region ?_
  refine asp (.int _ _) rfl ?_
  refine WL_nil ?_
  refine hK1 _ _ ?_
  refine CW_seq (fun K2 hK2 => ?_)
  refine CW_region ?_
  refine asp (.int _ _) rfl ?_
  refine WL_nil ?_
  refine hK2 _ _ ?_
  refine CW_seq (fun K3 hK3 => ?_)
  refine CW_seq (fun K4 hK4 => ?_)
  refine CW_region ?_
  refine mvp (.slice _ _ _) rfl ?_
  refine lenW rfl ?_
  refine mvp (.int _ _) rfl ?_
  refine WL_nil ?_
  refine hK4 _ _ ?_
  refine CW_block ?_
  refine CW_loop (fun k f w' => ∃ i : Nat, k = n - i ∧ i ≤ n ∧ f 3 = .int .i64 0 ∧ f 6 = .slice a n c ∧ f 7 = .int .i64 n ∧ f 8 = .int .i64 i ∧ orI (l.drop i) = orI l ∧ St w0 [] w' []) n ?_ ?_
  · exact ⟨0, by omega, by omega, rfl, rfl, rfl, rfl, by simp, hs⟩
  · rintro k f w1 ⟨i, rfl, hi, e3, e6, e7, e8, hh, hs⟩
    refine CW_kn (i := 3) e3 (CW_kn (i := 6) e6 (CW_kn (i := 7) e7 (CW_kn (i := 8) e8 ?_)))
    refine CW_seq (fun K5 hK5 => ?_)
    refine CW_region ?_
    refine lssW rfl rfl ?_
    refine WL_nil ?_
    refine hK5 _ _ ?_
    refine CW_seq (fun K6 hK6 => ?_)
    refine CW_cond rfl (fun hc9 => ?_) (fun hc9 => ?_)
    · have hi2 : i < n := by simpa using hc9
      have hi3 : i < l.length := by omega
      obtain ⟨b, off, rfl, hcell⟩ := iv_at (hr.fm hs.fm) hi3
      refine CW_skip ?_
      refine hK6 _ _ ?_
      refine CW_seq (fun K7 hK7 => ?_)
      refine CW_block ?_
      refine CW_seq (fun K8 hK8 => ?_)
      refine CW_region ?_
      refine iad rfl rfl (by omega) ?_
      refine ldc (v := .int .i64 l[i]) rfl (by simpa using hcell) ?_
      refine asp (.int _ _) rfl ?_
      refine WL_nil ?_
      refine hK8 _ _ ?_
      refine CW_seq (fun K9 hK9 => ?_)
      refine CW_region ?_
      refine mvp (.int _ _) rfl ?_
      refine mvp (.int _ _) rfl ?_
      refine neqW rfl rfl ?_
      refine WL_nil ?_
      refine hK9 _ _ ?_
      refine CW_cond rfl (fun hc14 => ?_) (fun hc14 => ?_)
      · skip
        refine CW_seq (fun K10 hK10 => ?_)
        refine CW_region ?_
        refine mvp (.int _ _) rfl ?_
        refine asp (.int _ _) rfl ?_
        refine WL_nil ?_
        refine hK10 _ _ ?_
        refine CW_ret ?_
        repeat (first | (with_reducible apply thenF_ret) | (with_reducible apply blockF_ret))
        try simp only [thenF, blockF, reduceIte]
        refine Post_r Tryz.results188 (.tmp rfl .nil) ?_
        try simp only [ev_tmp, ev_const, upd_ap, Nat.reduceLT, Nat.reduceEqDiff, reduceIte]
        refine ⟨?_, hs.fm⟩
        rw [← hh, List.drop_eq_getElem_cons hi3, orI, if_pos (by simpa using hc14)]
      · skip
        refine CW_skip ?_
        refine hK7 _ _ ?_
        refine CW_region ?_
        first | refine addI rfl rfl (by omega) ?_ | refine addW rfl rfl ?_
        refine mvp (.int _ _) rfl ?_
        refine WL_nil ?_
        skip
        refine ⟨n - (i + 1), by omega, i + 1, rfl, by omega, rfl, rfl, rfl, rfl, ?_, hs⟩
        rw [← hh, List.drop_eq_getElem_cons hi3, orI, if_neg (by simpa using hc14)]
    · skip
      refine CW_exit ?_
      refine hK3 _ _ ?_
      refine CW_seq (fun K11 hK11 => ?_)
      refine CW_region ?_
      refine mvp (.int _ _) rfl ?_
      refine asp (.int _ _) rfl ?_
      refine WL_nil ?_
      refine hK11 _ _ ?_
      refine CW_ret ?_
      repeat (first | (with_reducible apply thenF_ret) | (with_reducible apply blockF_ret))
      try simp only [thenF, blockF, reduceIte]
      refine Post_r Tryz.results188 (.tmp rfl .nil) ?_
      try simp only [ev_tmp, ev_const, upd_ap, Nat.reduceLT, Nat.reduceEqDiff, reduceIte]
      refine ⟨?_, hs.fm⟩
      rw [← hh, List.drop_eq_nil_of_le (by simp at hc9; omega)]
      rfl
def ocmp (a b : ONm) : Int := orI [icmp a.kind b.kind, lncmp a.owner b.owner, icmp a.num b.num, icmp a.idx b.idx, scmp a.text b.text]
theorem OCompare_ok (a b : ONm) (w0 : World) (ha : a.owner.size ≤ 9223372036854775807) (hb : b.owner.size ≤ 9223372036854775807) :
    Ret Tryz.prog 165 #[.agg (onV a).toArray, .agg (onV b).toArray] w0 fun v w' => v = .int .i64 (ocmp a b) ∧ Fm [] w0 w' := by
  have hs := St.init w0 []
  refine Ret_enter Tryz.func165 rfl Tryz.ntmps165 (by simp) ?_
  refine CW_seq (fun K1 hK1 => ?_)
  refine CW_region ?_
  refine bx (.agg (onV a).toArray) (vl := onV a) hs rfl rfl ?_
  intro w g2 hs hg2 hf2
  unfold onV at hs
  refine bx (.agg (onV b).toArray) (vl := onV b) hs rfl rfl ?_
  intro w g3 hs hg3 hf3
  unfold onV at hs
  refine asp (.int _ _) rfl ?_
  refine WL_nil ?_
  refine hK1 _ _ ?_
  refine CW_seq (fun K2 hK2 => ?_)
  refine DW_sH hs 999 ?_
  intro w hs _
  refine DW_q hs 0 rfl (by kernel_rfl) (fun w' hw' => X_fieldAddr rfl rfl) ?_
  refine DW_q hs 1 rfl (by kernel_rfl) (fun w' hw' => X_ldH hw' rfl rfl) ?_
  refine DW_q hs 2 rfl (by kernel_rfl) (fun w' hw' => X_fieldAddr rfl rfl) ?_
  refine DW_q hs 3 rfl (by kernel_rfl) (fun w' hw' => X_ldH hw' rfl rfl) ?_
  refine DW_q hs 5 rfl (by kernel_rfl) (fun w' hw' => X_fieldAddr rfl rfl) ?_
  refine DW_q hs 6 rfl (by kernel_rfl) (fun w' hw' => X_ldH hw' rfl rfl) ?_
  refine DW_q hs 7 rfl (by kernel_rfl) (fun w' hw' => X_fieldAddr rfl rfl) ?_
  refine DW_q hs 8 rfl (by kernel_rfl) (fun w' hw' => X_ldH hw' rfl rfl) ?_
  refine DW_q hs 10 rfl (by kernel_rfl) (fun w' hw' => X_fieldAddr rfl rfl) ?_
  refine DW_q hs 11 rfl (by kernel_rfl) (fun w' hw' => X_ldH hw' rfl rfl) ?_
  refine DW_q hs 12 rfl (by kernel_rfl) (fun w' hw' => X_fieldAddr rfl rfl) ?_
  refine DW_q hs 13 rfl (by kernel_rfl) (fun w' hw' => X_ldH hw' rfl rfl) ?_
  refine DW_q hs 15 rfl (by kernel_rfl) (fun w' hw' => X_fieldAddr rfl rfl) ?_
  refine DW_q hs 16 rfl (by kernel_rfl) (fun w' hw' => X_ldH hw' rfl rfl) ?_
  refine DW_q hs 17 rfl (by kernel_rfl) (fun w' hw' => X_fieldAddr rfl rfl) ?_
  refine DW_q hs 18 rfl (by kernel_rfl) (fun w' hw' => X_ldH hw' rfl rfl) ?_
  refine DW_q hs 20 rfl (by kernel_rfl) (fun w' hw' => X_fieldAddr rfl rfl) ?_
  refine DW_q hs 21 rfl (by kernel_rfl) (fun w' hw' => X_ldH hw' rfl rfl) ?_
  refine DW_q hs 22 rfl (by kernel_rfl) (fun w' hw' => X_fieldAddr rfl rfl) ?_
  refine DW_q hs 23 rfl (by kernel_rfl) (fun w' hw' => X_ldH hw' rfl rfl) ?_
  refine DW_l 4 rfl (by kernel_rfl) ?_
  refine cll (iCompare_ok a.kind b.kind _) ?_
  rintro _ w ⟨rfl, hf⟩
  replace hs := hs.call hf
  refine WL_nil ?_
  refine ⟨.inr hs.hold, ?_⟩
  refine DW_l 9 rfl (by kernel_rfl) ?_
  refine cll (LCompare_ok a.owner b.owner _ ha hb) ?_
  rintro _ w ⟨rfl, hf⟩
  replace hs := hs.call hf
  refine WL_nil ?_
  refine ⟨.inr hs.hold, ?_⟩
  refine DW_l 14 rfl (by kernel_rfl) ?_
  refine cll (iCompare_ok a.num b.num _) ?_
  rintro _ w ⟨rfl, hf⟩
  replace hs := hs.call hf
  refine WL_nil ?_
  refine ⟨.inr hs.hold, ?_⟩
  refine DW_l 19 rfl (by kernel_rfl) ?_
  refine cll (iCompare_ok a.idx b.idx _) ?_
  rintro _ w ⟨rfl, hf⟩
  replace hs := hs.call hf
  refine WL_nil ?_
  refine ⟨.inr hs.hold, ?_⟩
  refine DW_l 24 rfl (by kernel_rfl) ?_
  refine cll (sCompare_ok a.text b.text _) ?_
  rintro _ w ⟨rfl, hf⟩
  replace hs := hs.call hf
  refine WL_nil ?_
  refine ⟨.inr hs.hold, ?_⟩
  refine DW_l 25 rfl (by kernel_rfl) ?_
  refine W_bslice hs (BS.ii rfl (BS.ii rfl (BS.ii rfl (BS.ii rfl (BS.ii rfl .nil))))) rfl (by simp) ?_
  intro w g30 hs hg30 hf30
  refine WL_nil ?_
  refine ⟨.inr hs.hold, ?_⟩
  refine DW_l 26 rfl (by kernel_rfl) ?_
  refine cll (Or_ok _ _ _ [icmp a.kind b.kind, lncmp a.owner b.owner, icmp a.num b.num, icmp a.idx b.idx, scmp a.text b.text] _ (rdB hs (by simp) rfl) rfl (by omega)) ?_
  rintro _ w ⟨rfl, hf⟩
  replace hs := hs.call hf
  refine WL_nil ?_
  refine ⟨.inr hs.hold, ?_⟩
  refine DW_q hs 27 rfl (by kernel_rfl) (fun w' hw' => X_assign (v := (.int _ _)) rfl) ?_
  refine DW_e (by kernel_rfl) ?_
  refine hK2 _ _ ?_
  refine CW_ret ?_
  repeat (first | (with_reducible apply thenF_ret) | (with_reducible apply blockF_ret))
  try simp only [thenF, blockF, reduceIte]
  refine Post_r Tryz.results165 (.tmp rfl .nil) ?_
  try simp only [ev_tmp, ev_const, upd_ap, Nat.reduceLT, Nat.reduceEqDiff, reduceIte]
  exact ⟨rfl, hs.fm⟩
end Go.Proofs.YtkbldndbofbkcaaGreatDoor
/- view: what it is in memory. -/
namespace Go.Proofs.YtkbldndbofbkcaaGreatDoor
open Go Go.RowKit
theorem NameCheck_ok (n : ONm) (w0 : World) (ho : n.owner.size ≤ 9223372036854775807) : Ret Tryz.prog 116 #[.agg (onV n).toArray] w0 fun v w' => v = .int .i64 (onCheckB n) ∧ Fm [] w0 w' :=
  NCheck_ok (fun s w => Word_ok s w) n w0 ho
/-- A name as a key. -/
abbrev encN (n : ONm) : Value := .agg (onV n).toArray
theorem key_check (e : Bool) (n : ONm) (w : World) : (Instr.checkKey e 10000 93 (encN n)).run Tryz.prog w = .ok () w := by
  have hg : ∀ (T : TypeId) (m : Nat) (v : Value) (w : World), (Tryz.prog.underlying T = some (.int .i64) ∨ Tryz.prog.underlying T = some .string) → (Instr.checkKey e (m + 1) T v).run Tryz.prog w = .ok () w := by
    intro T m v w h
    rcases h with h | h <;> simp [Instr.checkKey, run_underlying h]
  have h1 := fun m v w => hg 3 m v w (.inl Tryz.underlying3)
  have h2 := fun m v w => hg 42 m v w (.inr Tryz.underlying42)
  have h3 := fun m v w => hg 9 m v w (.inr Tryz.underlying9)
  rw [show (10000 : Nat) = 9998 + 2 from rfl, Instr.checkKey]
  simp [run_underlying Tryz.underlying93, part, AgE.h, onV, h1, h2, h3]
theorem keyN : KeyC Tryz.prog 93 encN where
  check := key_check
  eq := equal_onm
  same := fun n => by
    simp [encN, onV, Instr.sameBits, Go.MapKept.bytes_beq]
  st := ⟨_, Tryz.underlying93, fun x y => by simp [Instr.sameNow]⟩
/-- A change: its name, the value, whether it is absent. -/
def chV (n : ONm) (c : ByteArray × Bool) : List Value := onV n ++ [.string c.1, .bool c.2]
@[simp] theorem chV_length (n : ONm) (c : ByteArray × Bool) : (chV n c).length = 7 := rfl
instance : ZrE Tryz.prog 117 (.agg (chV ⟨0, ⟨#[]⟩, 0, 0, ⟨#[]⟩⟩ (⟨#[]⟩, false)).toArray) := ⟨Tryz.zeroValue117⟩
abbrev Chs := List (ONm × ByteArray × Bool)
def NV (l : Chs) : List (ONm × Value) := l.map fun x => (x.1, .agg (chV x.1 x.2).toArray)
def nget : Chs → ONm → Option (ByteArray × Bool)
  | [], _ => none
  | (a, c) :: l, n => if n = a then some c else nget l n
def nset : Chs → ONm → ByteArray × Bool → Chs
  | [], n, c => [(n, c)]
  | (a, d) :: l, n, c => if n = a then (n, c) :: l else (a, d) :: nset l n c
theorem mget_NV (l : Chs) (n : ONm) : mget (NV l) n = (nget l n).map fun c => .agg (chV n c).toArray := by
  induction l with
  | nil => rfl
  | cons x l ih =>
    obtain ⟨a, c⟩ := x
    simp only [NV, List.map_cons, mget, nget] at ih ⊢
    by_cases h : n = a
    · subst h; simp
    · rw [if_neg h, if_neg h]; exact ih
theorem mset_NV (l : Chs) (n : ONm) (c : ByteArray × Bool) : mset (NV l) n (.agg (chV n c).toArray) = NV (nset l n c) := by
  induction l with
  | nil => rfl
  | cons x l ih =>
    obtain ⟨a, d⟩ := x
    simp only [NV, List.map_cons, mset, nset] at ih ⊢
    by_cases h : n = a
    · subst h; simp
    · rw [if_neg h, if_neg h, ih]; rfl
theorem nget_nset (l : Chs) (n m : ONm) (c : ByteArray × Bool) : nget (nset l n c) m = if m = n then some c else nget l m := by
  induction l with
  | nil => simp only [nset, nget]
  | cons x l ih =>
    obtain ⟨a, d⟩ := x
    by_cases h1 : n = a
    · subst h1
      simp only [nset, if_pos, nget]
      split <;> rfl
    · simp only [nset, if_neg h1, nget, ih]
      by_cases h2 : m = a
      · subst h2
        rw [if_pos rfl, if_pos rfl, if_neg (fun h => h1 h.symm)]
      · rw [if_neg h2, if_neg h2]
/-! ### the state under it -/
inductive Tr
  | nil
  | node (k : Nat) (nm : ONm) (v : ByteArray) (l r : Tr) (h sz by_ : Int)
def Tr.q : Tr → Option Addr
  | .nil => none
  | .node k _ _ _ _ _ _ _ => some ⟨k, 0, none⟩
abbrev Tr.ptr (t : Tr) : Value := .pointer t.q
def Tr.count : Tr → Nat
  | .nil => 0
  | .node _ _ _ l r _ _ _ => l.count + r.count + 1
def Tr.fp : Tr → List Nat
  | .nil => []
  | .node k _ _ l r _ _ _ => k :: (l.fp ++ r.fp)
def Tr.row (nm : ONm) (v : ByteArray) (l r : Value) (h sz by_ : Int) : List Value := onV nm ++ [.string v, l, r, .int .i64 h, .int .i64 sz, .int .i64 by_]
@[simp] theorem Tr.row_length (nm : ONm) (v : ByteArray) (l r : Value) (h sz by_ : Int) : (Tr.row nm v l r h sz by_).length = 11 := rfl
def Tr.at (w : World) : Tr → Prop
  | .nil => True
  | .node k nm v l r h sz by_ => w.heap[k]? = some (Blk 231 (Tr.row nm v l.ptr r.ptr h sz by_)) ∧ nm.owner.size ≤ 9223372036854775807 ∧ l.at w ∧ r.at w
theorem Tr.loc {w w' : World} : ∀ {t : Tr}, (∀ b ∈ t.fp, w'.heap[b]? = w.heap[b]?) → t.at w → t.at w'
  | .nil, _, _ => trivial
  | .node k nm v l r h sz by_, hf, ⟨h1, h0, h2, h3⟩ =>
    ⟨(hf k (by simp [Tr.fp])).trans h1, h0, Tr.loc (fun b hb => hf b (by simp [Tr.fp, hb])) h2, Tr.loc (fun b hb => hf b (by simp [Tr.fp, hb])) h3⟩
theorem Tr.lt {w : World} : ∀ {t : Tr}, t.at w → ∀ b ∈ t.fp, b < w.heap.size
  | .nil, _, b, hb => by simp [Tr.fp] at hb
  | .node k nm v l r h sz by_, ⟨h1, _, h2, h3⟩, b, hb => by
    simp only [Tr.fp, List.mem_cons, List.mem_append] at hb
    rcases hb with rfl | hb | hb
    · exact heap_lt h1
    · exact Tr.lt h2 b hb
    · exact Tr.lt h3 b hb
/-- A state: its block b, its tree. -/
def eT (b : Nat) (t : Tr) : Ent :=
  ⟨b :: t.fp, true, fun w => w.heap[b]? = some (Blk 137 [t.ptr]) ∧ t.at w, fun h ⟨k1, k2⟩ => ⟨(h b (by simp)).trans k1, Tr.loc (fun c hc => h c (by simp [hc])) k2⟩,
    fun h x hx => by rcases List.mem_cons.1 hx with rfl | hx; · exact heap_lt h.1
                     · exact Tr.lt h.2 x hx⟩
/-- Changes in a row. -/
def CV (l : Chs) : List Value := l.flatMap fun x => chV x.1 x.2
theorem CV_snoc (l : Chs) (n : ONm) (c : ByteArray × Bool) : CV (l ++ [(n, c)]) = CV l ++ chV n c := by simp [CV]
theorem CV_one (l : Chs) : ∀ u ∈ CV l, u.oneCell' = true := by
  intro u hu
  obtain ⟨x, _, hx⟩ := List.mem_flatMap.1 hu
  simp [chV, onV] at hx
  rcases hx with rfl | rfl | rfl | rfl | rfl | rfl | rfl <;> rfl
/-- A view: its block g, the state's block b, the maps' blocks r1 (what was read) and r2 (what is set), the calls. -/
abbrev vH (g b r1 r2 : Nat) (t : Tr) (a : Option Addr) (n c : Nat) (R C N : Chs) : List Ent :=
  [eB g true (Blk 134 [.pointer (some ⟨b, 0, none⟩), .map (some r1), .slice a n c, .map (some r2)]), eM r1 encN (NV R), eR (.slice a n c) 117 7 n (CV C), eM r2 encN (NV N), eT b t]
abbrev eV (g b r1 r2 : Nat) (t : Tr) (a : Option Addr) (n c : Nat) (R C N : Chs) : Ent := eL (vH g b r1 r2 t a n c R C N)
theorem vH_own {g b r1 r2 : Nat} {t : Tr} {a : Option Addr} {n c : Nat} {R C N : Chs} : ∀ e ∈ vH g b r1 r2 t a n c R C N, e.own = true := by
  intro e he
  simp at he
  rcases he with rfl | rfl | rfl | rfl | rfl <;> rfl
/-- What the state says of a name. -/
def Tr.get : Tr → ONm → Option ByteArray
  | .nil, _ => none
  | .node _ nm v l r _ _ _, n => if ocmp n nm < 0 then l.get n else if 0 < ocmp n nm then r.get n else some v
/-- What a view says of it. -/
def vwGet (t : Tr) (N : Chs) (n : ONm) : ByteArray × Bool :=
  if onCheckB n ≠ 0 then (⟨#[]⟩, false) else match nget N n with
  | some c => (c.1, !c.2)
  | none => ((t.get n).getD ⟨#[]⟩, (t.get n).isSome)
/-- What it has read then. -/
def vwRead (t : Tr) (R N : Chs) (n : ONm) : Chs :=
  if onCheckB n ≠ 0 then R else match nget N n with
  | some _ => R
  | none => nset R n ((t.get n).getD ⟨#[]⟩, !(t.get n).isSome)
/-! ### pieces chosen -/
class RemE (x : Ent) (H : List Ent) (H1 : outParam (List Ent)) : Prop where h : H.Perm (x :: H1)
instance RemE.there {x y : Ent} {H H1 : List Ent} [k : RemE x H H1] : RemE x (y :: H) (y :: H1) := ⟨(k.h.cons y).trans (.swap _ _ _)⟩
instance (priority := high) RemE.here {x : Ent} {H : List Ent} : RemE x (x :: H) H := ⟨.refl _⟩
class SelL (H' H : List Ent) : Prop where h : ∃ rest, H.Perm (H' ++ rest)
instance SelL.nil {H : List Ent} : SelL [] H := ⟨H, .refl _⟩
instance SelL.cons {x : Ent} {H' H H1 : List Ent} [k : RemE x H H1] [j : SelL H' H1] : SelL (x :: H') H := ⟨by obtain ⟨rest, h⟩ := j.h; exact ⟨rest, k.h.trans (h.cons x)⟩⟩
theorem St.perm {w0 w : World} {M : List Nat} {H H' : List Ent} (hs : St w0 M w H) (hp : H.Perm H') : St w0 M w H' :=
  ⟨hs.fm, fun e he => hs.has e (hp.mem_iff.2 he), fun e he => hs.own e (hp.mem_iff.2 he), (hp.pairwise_iff (fun {x y} h b hb hc => h b hc hb)).1 hs.sep⟩
theorem St.sel {w0 w : World} {M : List Nat} {H H' : List Ent} (hs : St w0 M w H) [k : SelL H' H] : St w0 M w H' := by
  obtain ⟨rest, h⟩ := k.h
  exact (hs.perm h).weak (List.sublist_append_left _ _)
/-- A piece that is only read. -/
def roE (e : Ent) : Ent := { e with own := false }
theorem St.ro {w : World} {e : Ent} (h : e.holds w) : St w [] w [roE e] := (St.init w []).put (e := roE e) h (by simp) (by intro q; cases q)
theorem eL_mk {w0 w : World} {M : List Nat} {H K : List Ent} (hs : St w0 M w K) (hh : ∀ e ∈ H, e.holds w) (hf : H.map Ent.fp = K.map Ent.fp) : (eL H).holds w := by
  refine ⟨hh, ?_⟩
  have h1 : (K.map Ent.fp).Pairwise (fun x y => ∀ b ∈ x, b ∉ y) := List.pairwise_map.2 hs.sep
  rw [← hf] at h1
  exact List.pairwise_map.1 h1
end Go.Proofs.YtkbldndbofbkcaaGreatDoor
/- state: New, tree, Get. -/
namespace Go.Proofs.YtkbldndbofbkcaaGreatDoor
open Go Go.RowKit
attribute [local irreducible] WL CW DW Ret RW
theorem SNew_ok (w0 : World) : Ret Tryz.prog 23 #[] w0 fun v w' => ∃ b, v = .pointer (some ⟨b, 0, none⟩) ∧ (eT b .nil).holds w' ∧ w0.heap.size ≤ b ∧ Fm [] w0 w' := by
  have hs := St.init w0 []
  refine Ret_enter Tryz.func23 rfl Tryz.ntmps23 (by simp) ?_
  refine CW_seq (fun K1 hK1 => ?_)
  refine CW_region ?_
  refine asp (.pointer _) rfl ?_
  refine WL_nil ?_
  refine hK1 _ _ ?_
  refine CW_seq (fun K2 hK2 => ?_)
  refine CW_region ?_
  refine WL_v (v := .agg #[.pointer none]) (X_build rfl rfl) ?_
  refine bx (.agg _) hs rfl rfl ?_
  intro w g2 hs hg2 hf2
  refine asp (.pointer _) rfl ?_
  refine WL_nil ?_
  refine hK2 _ _ ?_
  refine CW_ret ?_
  repeat (first | (with_reducible apply thenF_ret) | (with_reducible apply blockF_ret))
  try simp only [thenF, blockF, reduceIte]
  refine Post_r Tryz.results23 (.tmp rfl .nil) ?_
  try simp only [ev_tmp, ev_const, upd_ap, Nat.reduceLT, Nat.reduceEqDiff, reduceIte]
  exact ⟨g2, rfl, ⟨hs.get InB.h, trivial⟩, hs.geB, hs.fm⟩
theorem Stree_ok (b : Nat) (t : Tr) (w0 : World) (hb : (eT b t).holds w0) : Ret Tryz.prog 164 #[.pointer (some ⟨b, 0, none⟩)] w0 fun v w' => v = t.ptr ∧ Fm [] w0 w' := by
  have hs := St.one (M := []) (q := false) hb.1 (by simp)
  refine Ret_enter Tryz.func164 rfl Tryz.ntmps164 (by simp) ?_
  refine CW_seq (fun K1 hK1 => ?_)
  refine CW_region ?_
  refine asp (.pointer _) rfl ?_
  refine WL_nil ?_
  refine hK1 _ _ ?_
  refine CW_seq (fun K2 hK2 => ?_)
  refine CW_seq (fun K3 hK3 => ?_)
  refine CW_region ?_
  refine mvp (.pointer _) rfl ?_
  refine eqnP rfl rfl ?_
  refine WL_nil ?_
  refine hK3 _ _ ?_
  refine CW_condF rfl (rfl) ?_
  refine CW_skip ?_
  refine hK2 _ _ ?_
  refine CW_seq (fun K4 hK4 => ?_)
  refine CW_region ?_
  refine mvp (.pointer _) rfl ?_
  refine nckW rfl ?_
  refine fad rfl ?_
  refine ld hs rfl rfl ?_
  refine asp (.pointer _) rfl ?_
  refine WL_nil ?_
  refine hK4 _ _ ?_
  refine CW_ret ?_
  repeat (first | (with_reducible apply thenF_ret) | (with_reducible apply blockF_ret))
  try simp only [thenF, blockF, reduceIte]
  refine Post_r Tryz.results164 (.tmp rfl .nil) ?_
  try simp only [ev_tmp, ev_const, upd_ap, Nat.reduceLT, Nat.reduceEqDiff, reduceIte]
  exact ⟨by trivial, hs.fm⟩
theorem SGet_ok (b : Nat) (t : Tr) (n : ONm) (w0 : World) (hb : (eT b t).holds w0) (ho : n.owner.size ≤ 9223372036854775807) :
    Ret Tryz.prog 115 #[.pointer (some ⟨b, 0, none⟩), .agg (onV n).toArray] w0 fun v w' => v = .tuple #[.string ((t.get n).getD ⟨#[]⟩), .bool (t.get n).isSome] ∧ Fm [] w0 w' := by
  have hs := St.init w0 []
  refine Ret_enter Tryz.func115 rfl Tryz.ntmps115 (by simp) ?_
  refine CW_seq (fun K1 hK1 => ?_)
  refine CW_region ?_
  refine bx (.agg (onV n).toArray) (vl := onV n) hs rfl rfl ?_
  intro w g3 hs hg3 hf3
  refine asp (.string _) rfl ?_
  refine asp (.bool _) rfl ?_
  refine WL_nil ?_
  refine hK1 _ _ ?_
  refine CW_seq (fun K2 hK2 => ?_)
  refine CW_seq (fun K3 hK3 => ?_)
  refine CW_region ?_
  refine mvp (.pointer _) rfl ?_
  refine cll (Stree_ok b t _ ((eT b t).loc (fun c hc => hs.fm.block c ((eT b t).lt hb c hc) (by simp)) hb)) ?_
  rintro _ w ⟨rfl, hf⟩
  replace hs := hs.call hf
  refine asp (.pointer _) rfl ?_
  refine WL_nil ?_
  refine hK3 _ _ ?_
  refine CW_block ?_
  refine CW_loop (fun k f w' => ∃ s : Tr, k = s.count ∧ s.at w0 ∧ s.get n = t.get n ∧ f 3 = .pointer (some ⟨g3, 0, none⟩) ∧ f 6 = .pointer s.q ∧ St w0 [] w' [eB g3 true (Blk 93 (onV n))]) t.count ?_ ?_
  · exact ⟨t, rfl, hb.2, rfl, rfl, rfl, hs⟩
  · rintro k f w1 ⟨s, rfl, hat, hget, e3, e6, hs⟩
    refine CW_kn (i := 3) e3 (CW_kn (i := 6) e6 ?_)
    refine CW_seq (fun K4 hK4 => ?_)
    refine CW_seq (fun K5 hK5 => ?_)
    refine CW_region ?_
    refine mvp (.pointer _) rfl ?_
    refine nenP rfl rfl ?_
    refine WL_nil ?_
    refine hK5 _ _ ?_
    refine CW_cond rfl (fun hc11 => ?_) (fun hc11 => ?_)
    · obtain ⟨k, nm, v, l, r, h, sz, by_, rfl⟩ : ∃ k nm v l r h sz by_, s = .node k nm v l r h sz by_ := by
        cases s with
        | nil => simp [Tr.q] at hc11
        | node k nm v l r h sz by_ => exact ⟨_, _, _, _, _, _, _, _, rfl⟩
      have hkl := heap_lt hat.1
      replace hs := hs.put (e := eB k false (Blk 231 (Tr.row nm v l.ptr r.ptr h sz by_))) (hs.fm.keep hat.1 (by simp)) (by
        intro x hx y hy hq
        simp at hx; subst hx
        simp [eB] at hy hq
        have := hs.geB (b := g3)
        omega) (by intro h; cases h)
      refine CW_skip ?_
      refine hK4 _ _ ?_
      refine CW_block ?_
      refine CW_seq (fun K6 hK6 => ?_)
      refine DW_sH hs 999 ?_
      intro w hs _
      refine DW_q hs 0 rfl (by kernel_rfl) (fun w' hw' => X_ldAH hw' rfl (by simp)) ?_
      refine DW_q hs 1 rfl (by kernel_rfl) (fun w' hw' => X_move (v := (.pointer _)) rfl) ?_
      refine DW_q hs 2 rfl (by kernel_rfl) (fun w' hw' => X_nilCheckP rfl) ?_
      refine DW_q hs 3 rfl (by kernel_rfl) (fun w' hw' => X_fieldAddr rfl rfl) ?_
      refine DW_q hs 4 rfl (by kernel_rfl) (fun w' hw' => X_ldAH hw' rfl (by simp)) ?_
      refine DW_l 5 rfl (by kernel_rfl) ?_
      refine cll (OCompare_ok n nm _ ho hat.2.1) ?_
      rintro _ w ⟨rfl, hf⟩
      replace hs := hs.call hf
      refine WL_nil ?_
      refine ⟨.inr hs.hold, ?_⟩
      refine DW_q hs 6 rfl (by kernel_rfl) (fun w' hw' => X_assign (v := (.int _ _)) rfl) ?_
      refine DW_e (by kernel_rfl) ?_
      refine hK6 _ _ ?_
      refine CW_block ?_
      refine CW_seq (fun K7 hK7 => ?_)
      refine CW_region ?_
      refine mvp (.int _ _) rfl ?_
      refine lssW rfl rfl ?_
      refine asp (.bool _) rfl ?_
      refine WL_nil ?_
      refine hK7 _ _ ?_
      refine CW_cond rfl (fun hc22 => ?_) (fun hc22 => ?_)
      · skip
        refine CW_region ?_
        refine mvp (.pointer _) rfl ?_
        refine nckW rfl ?_
        refine fad rfl ?_
        refine ld hs rfl rfl ?_
        refine asp (.pointer _) rfl ?_
        refine WL_nil ?_
        skip
        first
          | (refine ⟨l.count, by simp only [Tr.count]; omega, l, rfl, hat.2.2.1, ?_, rfl, rfl, hs.wk⟩
             rw [← hget, Tr.get, if_pos (by simpa using hc22)])
          | (refine ⟨r.count, by simp only [Tr.count]; omega, r, rfl, hat.2.2.2, ?_, rfl, rfl, hs.wk⟩
             rw [← hget, Tr.get, if_neg (by simpa using hc22), if_pos (by simpa using hc29)])
      · skip
        refine CW_seq (fun K8 hK8 => ?_)
        refine CW_region ?_
        refine mvp (.int _ _) rfl ?_
        refine gtrW rfl rfl ?_
        refine asp (.bool _) rfl ?_
        refine WL_nil ?_
        refine hK8 _ _ ?_
        refine CW_cond rfl (fun hc29 => ?_) (fun hc29 => ?_)
        · skip
          refine CW_region ?_
          refine mvp (.pointer _) rfl ?_
          refine nckW rfl ?_
          refine fad rfl ?_
          refine ld hs rfl rfl ?_
          refine asp (.pointer _) rfl ?_
          refine WL_nil ?_
          skip
          first
            | (refine ⟨l.count, by simp only [Tr.count]; omega, l, rfl, hat.2.2.1, ?_, rfl, rfl, hs.wk⟩
               rw [← hget, Tr.get, if_pos (by simpa using hc22)])
            | (refine ⟨r.count, by simp only [Tr.count]; omega, r, rfl, hat.2.2.2, ?_, rfl, rfl, hs.wk⟩
               rw [← hget, Tr.get, if_neg (by simpa using hc22), if_pos (by simpa using hc29)])
        · skip
          refine CW_seq (fun K9 hK9 => ?_)
          refine CW_region ?_
          refine mvp (.pointer _) rfl ?_
          refine nckW rfl ?_
          refine fad rfl ?_
          refine ld hs rfl rfl ?_
          refine asp (.string _) rfl ?_
          refine asp (.bool _) rfl ?_
          refine WL_nil ?_
          refine hK9 _ _ ?_
          refine CW_ret ?_
          repeat (first | (with_reducible apply thenF_ret) | (with_reducible apply blockF_ret))
          try simp only [thenF, blockF, reduceIte]
          refine Post_r Tryz.results115 (.tmp rfl (.tmp rfl .nil)) ?_
          try simp only [ev_tmp, ev_const, upd_ap, Nat.reduceLT, Nat.reduceEqDiff, reduceIte]
          have hv : t.get n = some v := by
            rw [← hget, Tr.get, if_neg (by simpa using hc22), if_neg (by simpa using hc29)]
          rw [hv]
          exact ⟨rfl, hs.fm⟩
    · skip
      refine CW_exit ?_
      refine hK2 _ _ ?_
      refine CW_seq (fun K10 hK10 => ?_)
      refine CW_region ?_
      refine asp (.string _) rfl ?_
      refine asp (.bool _) rfl ?_
      refine WL_nil ?_
      refine hK10 _ _ ?_
      refine CW_ret ?_
      repeat (first | (with_reducible apply thenF_ret) | (with_reducible apply blockF_ret))
      try simp only [thenF, blockF, reduceIte]
      refine Post_r Tryz.results115 (.tmp rfl (.tmp rfl .nil)) ?_
      try simp only [ev_tmp, ev_const, upd_ap, Nat.reduceLT, Nat.reduceEqDiff, reduceIte]
      have hv : t.get n = none := by
        rw [← hget]
        cases s with
        | nil => rfl
        | node k nm v l r h sz by_ => simp [Tr.q] at hc11
      rw [hv]
      exact ⟨rfl, hs.fm⟩
end Go.Proofs.YtkbldndbofbkcaaGreatDoor
/- view: New, Get, Has. -/
namespace Go.Proofs.YtkbldndbofbkcaaGreatDoor
open Go Go.RowKit
attribute [local irreducible] WL CW DW Ret RW
section
variable {P : Program} {N : Nat} {f : Fr} {w : World} {Hc : List Ent} {d b : Nat} {T A K E : TypeId} {p : String} {aft : Array Edge} {x y : Operand} {α : Type} [DecidableEq α] {enc : α → Value} {kvs : List (α × Value)}
theorem X_lookupH {z v : Value} {bb : Bool} [hA : UnE P A (.map K E)] [hz : ZrE P E z] (hc : Hold Hc w) (hk : KeyC P K enc) (k : α) [hm : InM b Hc enc kvs] (hv : (mget kvs k).getD z = v) (hb : (mget kvs k).isSome = bb) (hx : ev N f x = .map (some b)) (hy : ev N f y = enc k) :
    Ex P N f w ⟨some d, .lookup A x y true, T, p, aft, none⟩ (.tuple #[v, .bool bb]) w := by
  subst hv hb
  simp [Ex, execOp, hx, hy, run_lookup hk (k := k) (hc _ hm.h)]
end
theorem VNew_ok (b : Nat) (t : Tr) (w0 : World) (hb : (eT b t).holds w0) :
    Ret Tryz.prog 22 #[.pointer (some ⟨b, 0, none⟩)] w0 fun v w' => ∃ g r1 r2, v = .pointer (some ⟨g, 0, none⟩) ∧ (eV g b r1 r2 t none 0 0 [] [] []).holds w' ∧ w0.heap.size ≤ g ∧ w0.heap.size ≤ r1 ∧ w0.heap.size ≤ r2 ∧ Fm [] w0 w' := by
  have hs := St.ro hb
  refine Ret_enter Tryz.func22 rfl Tryz.ntmps22 (by simp) ?_
  refine CW_seq (fun K1 hK1 => ?_)
  refine CW_region ?_
  refine asp (.pointer _) rfl ?_
  refine WL_nil ?_
  refine hK1 _ _ ?_
  refine CW_seq (fun K2 hK2 => ?_)
  refine CW_seq (fun K3 hK3 => ?_)
  refine CW_region ?_
  refine mvp (.pointer _) rfl ?_
  refine eqnP rfl rfl ?_
  refine WL_nil ?_
  refine hK3 _ _ ?_
  refine CW_condF rfl (rfl) ?_
  refine CW_skip ?_
  refine hK2 _ _ ?_
  refine CW_seq (fun K4 hK4 => ?_)
  refine CW_region ?_
  refine mvp (.pointer _) rfl ?_
  refine W_mkMap hs encN ?_
  intro w g6 hs hg6 hf6
  refine W_mkMap hs encN ?_
  intro w g7 hs hg7 hf7
  refine WL_v (v := .agg #[.pointer (some ⟨b, 0, none⟩), .map (some g6), .slice none 0 0, .map (some g7)]) (X_build rfl rfl) ?_
  refine bx (.agg _) hs rfl rfl ?_
  intro w g9 hs hg9 hf9
  refine asp (.pointer _) rfl ?_
  refine WL_nil ?_
  refine hK4 _ _ ?_
  refine CW_ret ?_
  repeat (first | (with_reducible apply thenF_ret) | (with_reducible apply blockF_ret))
  try simp only [thenF, blockF, reduceIte]
  refine Post_r Tryz.results22 (.tmp rfl .nil) ?_
  try simp only [ev_tmp, ev_const, upd_ap, Nat.reduceLT, Nat.reduceEqDiff, reduceIte]
  replace hs : St w0 [] w (eB g9 true (Blk 134 [.pointer (some ⟨b, 0, none⟩), .map (some g6), .slice none 0 0, .map (some g7)]) :: _) := hs
  have hs2 := hs.nilR 117 7
  have hs3 : St w0 [] w [eB g9 true (Blk 134 [.pointer (some ⟨b, 0, none⟩), .map (some g6), .slice none 0 0, .map (some g7)]), eM g6 encN [], eR (.slice none 0 0) 117 7 0 [], eM g7 encN [], roE (eT b t)] := hs2.sel
  refine ⟨g9, g6, g7, rfl, eL_mk hs3 ?_ rfl, hs.own _ (.head _) rfl g9 (by simp [eB]) |>.resolve_right (by simp), ?_, ?_, hs.fm⟩
  · intro e he
    simp at he
    rcases he with rfl | rfl | rfl | rfl | rfl
    · exact hs3.has _ (by simp)
    · exact hs3.has (eM g6 encN []) (by simp)
    · exact hs3.has (eR (.slice none 0 0) 117 7 0 []) (by simp)
    · exact hs3.has (eM g7 encN []) (by simp)
    · exact hs3.has (roE (eT b t)) (by simp)
  · exact (hs3.own (eM g6 encN []) (by simp) rfl g6 (by simp [eM])).resolve_right (by simp)
  · exact (hs3.own (eM g7 encN []) (by simp) rfl g7 (by simp [eM])).resolve_right (by simp)
theorem VGet_ok (g b r1 r2 : Nat) (t : Tr) (a : Option Addr) (m c : Nat) (R C N : Chs) (n : ONm) (w0 : World) (hV : (eV g b r1 r2 t a m c R C N).holds w0) (ho : n.owner.size ≤ 9223372036854775807) :
    Ret Tryz.prog 150 #[.pointer (some ⟨g, 0, none⟩), .agg (onV n).toArray] w0 fun v w' => v = .tuple #[.string (vwGet t N n).1, .bool (vwGet t N n).2] ∧ Turned (eV g b r1 r2 t a m c R C N) (eV g b r1 r2 t a m c (vwRead t R N n) C N) w0 w' := by
  have hs := (St.ent hV).unpack
  obtain ⟨nm, ch, hnc, hch⟩ : ∃ nm ch, (mget (NV N) n).getD (.agg (chV ⟨0, ⟨#[]⟩, 0, 0, ⟨#[]⟩⟩ (⟨#[]⟩, false)).toArray) = .agg (chV nm ch).toArray ∧ ∀ ch', nget N n = some ch' → ch = ch' := by
    rw [mget_NV]
    cases nget N n with
    | none => exact ⟨_, _, rfl, fun _ h => by cases h⟩
    | some c => exact ⟨_, c, rfl, fun c' h => by injection h⟩
  have hnb : (mget (NV N) n).isSome = (nget N n).isSome := by rw [mget_NV]; cases nget N n <;> rfl
  refine Ret_enter Tryz.func150 rfl Tryz.ntmps150 (by simp) ?_
  refine CW_seq (fun K1 hK1 => ?_)
  refine CW_region ?_
  refine bx (.agg (onV n).toArray) (vl := onV n) hs rfl rfl ?_
  intro w g3 hs hg3 hf3
  refine asp (.string _) rfl ?_
  refine asp (.bool _) rfl ?_
  refine WL_nil ?_
  refine hK1 _ _ ?_
  refine CW_seq (fun K2 hK2 => ?_)
  refine CW_seq (fun K3 hK3 => ?_)
  refine CW_region ?_
  refine mvp (.pointer _) rfl ?_
  refine eqnP rfl rfl ?_
  refine mvp (.bool _) rfl ?_
  refine WL_gyb (g := 12) rfl (by decide) rfl (rfl) ?_
  refine ldA hs rfl (by simp) ?_
  refine WL_gy (g := 12) rfl (by decide) rfl ?_
  refine cll (NameCheck_ok n _ ho) ?_
  rintro _ w ⟨rfl, hf⟩
  replace hs := hs.call hf
  refine WL_gy (g := 12) rfl (by decide) rfl ?_
  refine neqW rfl rfl ?_
  first | refine pkT rfl rfl ?_ | refine pkF rfl rfl ?_
  refine WL_nil ?_
  refine hK3 _ _ ?_
  refine CW_cond rfl (fun hc16 => ?_) (fun hc16 => ?_)
  · skip
    refine CW_seq (fun K4 hK4 => ?_)
    refine CW_region ?_
    refine asp (.string _) rfl ?_
    refine asp (.bool _) rfl ?_
    refine WL_nil ?_
    refine hK4 _ _ ?_
    refine CW_ret ?_
    repeat (first | (with_reducible apply thenF_ret) | (with_reducible apply blockF_ret))
    try simp only [thenF, blockF, reduceIte]
    refine Post_r Tryz.results150 (.tmp rfl (.tmp rfl .nil)) ?_
    try simp only [ev_tmp, ev_const, upd_ap, Nat.reduceLT, Nat.reduceEqDiff, reduceIte]
    have h16 : onCheckB n ≠ 0 := by simpa using hc16
    have e1 : vwRead t R N n = R := by unfold vwRead; rw [if_pos h16]
    rw [e1]
    unfold vwGet
    rw [if_pos h16]
    exact ⟨by trivial, ((hs.sel (H' := vH g b r1 r2 t a m c R C N)).pack vH_own).turned _ rfl⟩
  · skip
    refine CW_skip ?_
    refine hK2 _ _ ?_
    refine CW_seq (fun K5 hK5 => ?_)
    refine CW_seq (fun K6 hK6 => ?_)
    refine DW_sH hs 999 ?_
    intro w hs _
    refine DW_q hs 0 rfl (by kernel_rfl) (fun w' hw' => X_move (v := (.pointer _)) rfl) ?_
    refine DW_q hs 1 rfl (by kernel_rfl) (fun w' hw' => X_nilCheckP rfl) ?_
    refine DW_q hs 2 rfl (by kernel_rfl) (fun w' hw' => X_fieldAddr rfl rfl) ?_
    refine DW_q hs 3 rfl (by kernel_rfl) (fun w' hw' => X_ldH hw' rfl rfl) ?_
    refine DW_q hs 4 rfl (by kernel_rfl) (fun w' hw' => X_ldAH hw' rfl (by simp)) ?_
    refine DW_q hs 5 rfl (by kernel_rfl) (fun w' hw' => X_lookupH hw' keyN n hnc hnb rfl rfl) ?_
    refine DW_q hs 6 rfl (by kernel_rfl) (fun w' hw' => X_move (v := (.tuple _)) rfl) ?_
    refine DW_q hs 7 rfl (by kernel_rfl) (fun w' hw' => X_extract rfl rfl) ?_
    refine DW_q hs 8 rfl (by kernel_rfl) (fun w' hw' => X_extract rfl rfl) ?_
    refine DW_l 9 rfl (by kernel_rfl) ?_
    refine alc hs ?_
    intro w g6 hs hg6 hf6
    refine WL_nil ?_
    refine ⟨.inr hs.hold, ?_⟩
    refine DW_l 10 rfl (by kernel_rfl) ?_
    refine sto (.agg (chV nm ch).toArray) (vl := chV nm ch) hs rfl rfl rfl rfl (by simp) rfl ?_
    intro w hs _
    replace hs : St w0 _ w (eB g6 true (Blk 117 (chV nm ch)) :: _) := hs
    refine WL_nil ?_
    refine ⟨.inr hs.hold, ?_⟩
    refine DW_q hs 11 rfl (by kernel_rfl) (fun w' hw' => X_assign (v := (.bool _)) rfl) ?_
    refine DW_e (by kernel_rfl) ?_
    refine hK6 _ _ ?_
    refine CW_seq (fun K7 hK7 => ?_)
    refine CW_region ?_
    refine mvp (.bool _) rfl ?_
    refine WL_nil ?_
    refine hK7 _ _ ?_
    refine CW_cond rfl (fun hc26 => ?_) (fun hc26 => ?_)
    · skip
      refine CW_seq (fun K8 hK8 => ?_)
      refine DW_sH hs 999 ?_
      intro w hs _
      refine DW_q hs 0 rfl (by kernel_rfl) (fun w' hw' => X_fieldAddr rfl rfl) ?_
      refine DW_q hs 1 rfl (by kernel_rfl) (fun w' hw' => X_ldH hw' rfl rfl) ?_
      refine DW_q hs 2 rfl (by kernel_rfl) (fun w' hw' => X_fieldAddr rfl rfl) ?_
      refine DW_q hs 3 rfl (by kernel_rfl) (fun w' hw' => X_ldH hw' rfl rfl) ?_
      refine DW_q hs 4 rfl (by kernel_rfl) (fun w' hw' => X_not rfl) ?_
      refine DW_q hs 5 rfl (by kernel_rfl) (fun w' hw' => X_assign (v := (.string _)) rfl) ?_
      refine DW_q hs 6 rfl (by kernel_rfl) (fun w' hw' => X_assign (v := (.bool _)) rfl) ?_
      refine DW_e (by kernel_rfl) ?_
      refine hK8 _ _ ?_
      refine CW_ret ?_
      repeat (first | (with_reducible apply thenF_ret) | (with_reducible apply blockF_ret))
      try simp only [thenF, blockF, reduceIte]
      refine Post_r Tryz.results150 (.tmp rfl (.tmp rfl .nil)) ?_
      try simp only [ev_tmp, ev_const, upd_ap, Nat.reduceLT, Nat.reduceEqDiff, reduceIte]
      have h16 : ¬ onCheckB n ≠ 0 := by simpa using hc16
      obtain ⟨c', hc'⟩ : ∃ c', nget N n = some c' := Option.isSome_iff_exists.1 (by simpa using hc26)
      have e2 := hch c' hc'
      subst e2
      have e1 : vwRead t R N n = R := by unfold vwRead; rw [if_neg h16, hc']
      rw [e1]
      unfold vwGet
      rw [if_neg h16, hc']
      exact ⟨by trivial, ((hs.sel (H' := vH g b r1 r2 t a m c R C N)).pack vH_own).turned _ rfl⟩
    · skip
      refine CW_skip ?_
      refine hK5 _ _ ?_
      refine CW_seq (fun K9 hK9 => ?_)
      refine DW_sH hs 999 ?_
      intro w hs _
      refine DW_q hs 0 rfl (by kernel_rfl) (fun w' hw' => X_move (v := (.pointer _)) rfl) ?_
      refine DW_q hs 1 rfl (by kernel_rfl) (fun w' hw' => X_nilCheckP rfl) ?_
      refine DW_q hs 2 rfl (by kernel_rfl) (fun w' hw' => X_fieldAddr rfl rfl) ?_
      refine DW_q hs 3 rfl (by kernel_rfl) (fun w' hw' => X_ldH hw' rfl rfl) ?_
      refine DW_q hs 4 rfl (by kernel_rfl) (fun w' hw' => X_ldAH hw' rfl (by simp)) ?_
      refine DW_l 5 rfl (by kernel_rfl) ?_
      refine cll (SGet_ok b t n _ (hs.he (eT b t)) ho) ?_
      rintro _ w ⟨rfl, hf⟩
      replace hs := hs.call hf
      refine WL_nil ?_
      refine ⟨.inr hs.hold, ?_⟩
      refine DW_q hs 6 rfl (by kernel_rfl) (fun w' hw' => X_move (v := (.tuple _)) rfl) ?_
      refine DW_q hs 7 rfl (by kernel_rfl) (fun w' hw' => X_extract rfl rfl) ?_
      refine DW_q hs 8 rfl (by kernel_rfl) (fun w' hw' => X_extract rfl rfl) ?_
      refine DW_q hs 9 rfl (by kernel_rfl) (fun w' hw' => X_assign (v := (.string _)) rfl) ?_
      refine DW_q hs 10 rfl (by kernel_rfl) (fun w' hw' => X_assign (v := (.bool _)) rfl) ?_
      refine DW_e (by kernel_rfl) ?_
      refine hK9 _ _ ?_
      refine CW_seq (fun K10 hK10 => ?_)
      refine DW_sH hs 10 ?_
      intro w hs _
      refine DW_q hs 0 rfl (by kernel_rfl) (fun w' hw' => X_move (v := (.pointer _)) rfl) ?_
      refine DW_q hs 1 rfl (by kernel_rfl) (fun w' hw' => X_nilCheckP rfl) ?_
      refine DW_q hs 2 rfl (by kernel_rfl) (fun w' hw' => X_fieldAddr rfl rfl) ?_
      refine DW_q hs 3 rfl (by kernel_rfl) (fun w' hw' => X_ldH hw' rfl rfl) ?_
      refine DW_q hs 4 rfl (by kernel_rfl) (fun w' hw' => X_ldAH hw' rfl (by simp)) ?_
      refine DW_q hs 5 rfl (by kernel_rfl) (fun w' hw' => X_ldAH hw' rfl (by simp)) ?_
      refine DW_q hs 6 rfl (by kernel_rfl) (fun w' hw' => X_move (v := (.string _)) rfl) ?_
      refine DW_q hs 7 rfl (by kernel_rfl) (fun w' hw' => X_move (v := (.bool _)) rfl) ?_
      refine DW_q hs 8 rfl (by kernel_rfl) (fun w' hw' => X_not rfl) ?_
      refine DW_q hs 9 rfl (by kernel_rfl) (fun w' hw' => X_build (vl := chV n ((t.get n).getD ⟨#[]⟩, !(t.get n).isSome)) rfl rfl) ?_
      refine DW_l 10 rfl (by kernel_rfl) ?_
      refine W_mapUpd hs keyN (k := n) (v := .agg (chV n ((t.get n).getD ⟨#[]⟩, !(t.get n).isSome)).toArray) rfl rfl rfl ?_
      intro w hs _
      rw [mset_NV] at hs
      refine WL_nil ?_
      refine ⟨.inl rfl, ?_⟩
      refine DW_e (by kernel_rfl) ?_
      refine hK10 _ _ ?_
      refine CW_seq (fun K11 hK11 => ?_)
      refine CW_region ?_
      refine mvp (.string _) rfl ?_
      refine mvp (.bool _) rfl ?_
      refine asp (.string _) rfl ?_
      refine asp (.bool _) rfl ?_
      refine WL_nil ?_
      refine hK11 _ _ ?_
      refine CW_ret ?_
      repeat (first | (with_reducible apply thenF_ret) | (with_reducible apply blockF_ret))
      try simp only [thenF, blockF, reduceIte]
      refine Post_r Tryz.results150 (.tmp rfl (.tmp rfl .nil)) ?_
      try simp only [ev_tmp, ev_const, upd_ap, Nat.reduceLT, Nat.reduceEqDiff, reduceIte]
      have h16 : ¬ onCheckB n ≠ 0 := by simpa using hc16
      have hc' : nget N n = none := by simpa using hc26
      have e1 : vwRead t R N n = nset R n ((t.get n).getD ⟨#[]⟩, !(t.get n).isSome) := by unfold vwRead; rw [if_neg h16, hc']
      rw [e1]
      unfold vwGet
      rw [if_neg h16, hc']
      exact ⟨by trivial, ((hs.sel (H' := vH g b r1 r2 t a m c (nset R n ((t.get n).getD ⟨#[]⟩, !(t.get n).isSome)) C N)).pack vH_own).turned _ rfl⟩
end Go.Proofs.YtkbldndbofbkcaaGreatDoor
/- view: Has, the calls. -/
namespace Go.Proofs.YtkbldndbofbkcaaGreatDoor
open Go Go.RowKit
attribute [local irreducible] WL CW DW Ret RW
theorem VHas_ok (g b r1 r2 : Nat) (t : Tr) (a : Option Addr) (m c : Nat) (R C N : Chs) (n : ONm) (w0 : World) (hV : (eV g b r1 r2 t a m c R C N).holds w0) (ho : n.owner.size ≤ 9223372036854775807) :
    Ret Tryz.prog 95 #[.pointer (some ⟨g, 0, none⟩), .agg (onV n).toArray] w0 fun v w' => v = .bool (vwGet t N n).2 ∧ Turned (eV g b r1 r2 t a m c R C N) (eV g b r1 r2 t a m c (vwRead t R N n) C N) w0 w' := by
  have hs := St.ent hV
  refine Ret_enter Tryz.func95 rfl Tryz.ntmps95 (by simp) ?_
  refine CW_seq (fun K1 hK1 => ?_)
  refine CW_region ?_
  refine bx (.agg (onV n).toArray) (vl := onV n) hs rfl rfl ?_
  intro w g3 hs hg3 hf3
  refine asp (.bool _) rfl ?_
  refine WL_nil ?_
  refine hK1 _ _ ?_
  refine CW_seq (fun K2 hK2 => ?_)
  refine CW_region ?_
  refine mvp (.pointer _) rfl ?_
  refine ldA hs rfl (by simp) ?_
  refine cll (VGet_ok g b r1 r2 t a m c R C N n _ (hs.he _) ho) ?_
  rintro _ w ⟨rfl, ht⟩
  replace hs := hs.turnE rfl ht
  refine mvp (.tuple _) rfl ?_
  refine ext rfl rfl ?_
  refine ext rfl rfl ?_
  refine asp (.string _) rfl ?_
  refine asp (.bool _) rfl ?_
  refine WL_nil ?_
  refine hK2 _ _ ?_
  refine CW_seq (fun K3 hK3 => ?_)
  refine CW_region ?_
  refine mvp (.bool _) rfl ?_
  refine asp (.bool _) rfl ?_
  refine WL_nil ?_
  refine hK3 _ _ ?_
  refine CW_ret ?_
  repeat (first | (with_reducible apply thenF_ret) | (with_reducible apply blockF_ret))
  try simp only [thenF, blockF, reduceIte]
  refine Post_r Tryz.results95 (.tmp rfl .nil) ?_
  try simp only [ev_tmp, ev_const, upd_ap, Nat.reduceLT, Nat.reduceEqDiff, reduceIte]
  exact ⟨by trivial, (hs.sel (H' := [eV g b r1 r2 t a m c (vwRead t R N n) C N])).turned _ rfl⟩
theorem CloneC_ok (a : Option Addr) (m c : Nat) (C : Chs) (w0 : World) (hr : Rd w0 a m 7 (CV C)) (hm : m ≤ 1000000) (hc : CV C = [] → a ≠ none → True) :
    Ret Tryz.prog 182 #[.slice a m c] w0 fun v w' => ∃ a' c', v = .slice a' m c' ∧ NewR w0 w' 117 7 m (.slice a' m c') (CV C) ∧ Fm [] w0 w' := by
  have hs := St.init w0 []
  refine Ret_enter Tryz.func182 rfl Tryz.ntmps182 (by simp) ?_
  refine CW_seq (fun K1 hK1 => ?_)
  refine CW_region ?_
  refine asp (.slice _ _ _) rfl ?_
  refine WL_nil ?_
  refine hK1 _ _ ?_
  refine CW_seq (fun K2 hK2 => ?_)
  refine CW_seq (fun K3 hK3 => ?_)
  refine CW_region ?_
  refine mvp (.slice _ _ _) rfl ?_
  refine eqnS rfl rfl ?_
  refine WL_nil ?_
  refine hK3 _ _ ?_
  refine CW_cond rfl (fun hc4 => ?_) (fun hc4 => ?_)
  · have h0 : a = none := by simpa using hc4
    subst h0
    have hC : CV C = [] := by
      by_cases h : CV C = []
      · exact h
      · obtain ⟨_, _, h1, _⟩ := hr.2 h; cases h1
    have hm0 : m = 0 := by have := hr.1; rw [hC] at this; simp at this; omega
    subst hm0
    refine CW_seq (fun K4 hK4 => ?_)
    refine CW_region ?_
    refine asp (.slice _ _ _) rfl ?_
    refine WL_nil ?_
    refine hK4 _ _ ?_
    refine CW_ret ?_
    repeat (first | (with_reducible apply thenF_ret) | (with_reducible apply blockF_ret))
    try simp only [thenF, blockF, reduceIte]
    refine Post_r Tryz.results182 (.tmp rfl .nil) ?_
    try simp only [ev_tmp, ev_const, upd_ap, Nat.reduceLT, Nat.reduceEqDiff, reduceIte]
    rw [hC]
    exact ⟨none, 0, rfl, World.ownsRow_nil _ _ _ _, hs.fm⟩
  · skip
    obtain ⟨ad, rfl⟩ : ∃ ad, a = some ad := by
      cases a with
      | none => simp at hc4
      | some ad => exact ⟨ad, rfl⟩
    refine CW_skip ?_
    refine hK2 _ _ ?_
    refine CW_seq (fun K5 hK5 => ?_)
    refine CW_region ?_
    refine W_bslice hs .nil rfl (by simp) ?_
    intro w g5 hs hg5 hf5
    refine mvp (.slice _ _ _) rfl ?_
    replace hs := hs.toR (n := 0) (cap := 0) (size := 7) .here rfl (by omega) (by omega)
    refine W_append hs rfl rfl (hr.fm hs.fm) (fun _ h => by cases h) (CV_one C) (by decide) (by rfl) (by omega) (by omega) ?_
    intro a2 c2 w hs _
    simp only [Nat.zero_add, Nat.zero_mul, List.take_nil, List.nil_append] at hs ⊢
    refine asp (.slice _ _ _) rfl ?_
    refine WL_nil ?_
    refine hK5 _ _ ?_
    refine CW_ret ?_
    repeat (first | (with_reducible apply thenF_ret) | (with_reducible apply blockF_ret))
    try simp only [thenF, blockF, reduceIte]
    refine Post_r Tryz.results182 (.tmp rfl .nil) ?_
    try simp only [ev_tmp, ev_const, upd_ap, Nat.reduceLT, Nat.reduceEqDiff, reduceIte]
    exact ⟨a2, c2, rfl, hs.newR, hs.fm⟩
def callE (n : ONm) (c : ByteArray × Bool) : Int := if onCheckB n ≠ 0 then 12 else if 65536 < c.1.size then 5 else 0
def callN (N : Chs) (n : ONm) (c : ByteArray × Bool) : Chs := if callE n c = 0 then nset N n c else N
theorem VCall_ok (g b r1 r2 : Nat) (t : Tr) (a : Option Addr) (m c : Nat) (R C N : Chs) (n : ONm) (ch : ByteArray × Bool) (w0 : World) (hV : (eV g b r1 r2 t a m c R C N).holds w0) (ho : n.owner.size ≤ 9223372036854775807) (hm : m ≤ 1000000) :
    Ret Tryz.prog 155 #[.pointer (some ⟨g, 0, none⟩), .agg (chV n ch).toArray] w0 fun v w' => v = .int .i64 (callE n ch) ∧ ∃ a' m' c' C', m' ≤ m + 1 ∧ Turned (eV g b r1 r2 t a m c R C N) (eV g b r1 r2 t a' m' c' R C' (callN N n ch)) w0 w' := by
  have hs := (St.ent hV).unpack
  refine Ret_enter Tryz.func155 rfl Tryz.ntmps155 (by simp) ?_
  refine CW_seq (fun K1 hK1 => ?_)
  refine CW_region ?_
  refine bx (.agg (chV n ch).toArray) (vl := chV n ch) hs rfl rfl ?_
  intro w g3 hs hg3 hf3
  refine asp (.int _ _) rfl ?_
  refine WL_nil ?_
  refine hK1 _ _ ?_
  refine CW_seq (fun K2 hK2 => ?_)
  refine CW_block ?_
  refine CW_seq (fun K3 hK3 => ?_)
  refine CW_region ?_
  refine mvp (.pointer _) rfl ?_
  refine eqnP rfl rfl ?_
  refine asp (.bool _) rfl ?_
  refine WL_nil ?_
  refine hK3 _ _ ?_
  refine CW_condF rfl (rfl) ?_
  refine CW_seq (fun K4 hK4 => ?_)
  refine CW_region ?_
  refine fad rfl ?_
  refine ldA hs rfl (by simp) ?_
  refine cll (NameCheck_ok n _ ho) ?_
  rintro _ w ⟨rfl, hf⟩
  replace hs := hs.call hf
  refine neqW rfl rfl ?_
  refine asp (.bool _) rfl ?_
  refine WL_nil ?_
  refine hK4 _ _ ?_
  refine CW_cond rfl (fun hc8 => ?_) (fun hc8 => ?_)
  · skip
    refine CW_seq (fun K5 hK5 => ?_)
    refine CW_region ?_
    refine asp (.int _ _) rfl ?_
    refine WL_nil ?_
    refine hK5 _ _ ?_
    refine CW_ret ?_
    repeat (first | (with_reducible apply thenF_ret) | (with_reducible apply blockF_ret))
    try simp only [thenF, blockF, reduceIte]
    refine Post_r Tryz.results155 (.tmp rfl .nil) ?_
    try simp only [ev_tmp, ev_const, upd_ap, Nat.reduceLT, Nat.reduceEqDiff, reduceIte]
    have h12 : onCheckB n ≠ 0 := by simpa using hc8
    have e1 : callE n ch = 12 := by unfold callE; rw [if_pos h12]
    have e2 : callN N n ch = N := by unfold callN; rw [e1]; rfl
    rw [e1, e2]
    exact ⟨by trivial, a, m, c, C, by omega, ((hs.sel (H' := vH g b r1 r2 t a m c R C N)).pack vH_own).turned _ rfl⟩
  · skip
    refine CW_seq (fun K6 hK6 => ?_)
    refine CW_region ?_
    refine fad rfl ?_
    refine ld hs rfl rfl ?_
    refine lenS rfl ?_
    refine gtrW rfl rfl ?_
    refine asp (.bool _) rfl ?_
    refine WL_nil ?_
    refine hK6 _ _ ?_
    refine CW_cond rfl (fun hc13 => ?_) (fun hc13 => ?_)
    · skip
      refine CW_seq (fun K7 hK7 => ?_)
      refine CW_region ?_
      refine asp (.int _ _) rfl ?_
      refine WL_nil ?_
      refine hK7 _ _ ?_
      refine CW_ret ?_
      repeat (first | (with_reducible apply thenF_ret) | (with_reducible apply blockF_ret))
      try simp only [thenF, blockF, reduceIte]
      refine Post_r Tryz.results155 (.tmp rfl .nil) ?_
      try simp only [ev_tmp, ev_const, upd_ap, Nat.reduceLT, Nat.reduceEqDiff, reduceIte]
      have h12 : ¬ onCheckB n ≠ 0 := by simpa using hc8
      have e1 : callE n ch = 5 := by unfold callE; rw [if_neg h12, if_pos (by simp at hc13; omega)]
      have e2 : callN N n ch = N := by unfold callN; rw [e1]; rfl
      rw [e1, e2]
      exact ⟨by trivial, a, m, c, C, by omega, ((hs.sel (H' := vH g b r1 r2 t a m c R C N)).pack vH_own).turned _ rfl⟩
    · skip
      refine CW_skip ?_
      refine hK2 _ _ ?_
      refine CW_seq (fun K8 hK8 => ?_)
      refine DW_sH hs 11 ?_
      intro w hs _
      refine DW_q hs 0 rfl (by kernel_rfl) (fun w' hw' => X_move (v := (.pointer _)) rfl) ?_
      refine DW_q hs 1 rfl (by kernel_rfl) (fun w' hw' => X_move (v := (.pointer _)) rfl) ?_
      refine DW_q hs 2 rfl (by kernel_rfl) (fun w' hw' => X_nilCheckP rfl) ?_
      refine DW_q hs 3 rfl (by kernel_rfl) (fun w' hw' => X_fieldAddr rfl rfl) ?_
      refine DW_q hs 4 rfl (by kernel_rfl) (fun w' hw' => X_ldH hw' rfl rfl) ?_
      refine DW_q hs 6 rfl (by kernel_rfl) (fun w' hw' => X_ldAH hw' rfl (by simp)) ?_
      refine DW_l2 5 7 rfl rfl (by kernel_rfl) ?_ ?_
      · skip
        refine cll (CloneC_ok a m c C _ (hs.rd (a := a)) hm (fun _ _ => trivial)) ?_
        rintro _ w ⟨a1, c1, rfl, hnew, hf⟩
        replace hs := hs.callR hf hnew
        refine WL_nil ?_
        refine ⟨.inr hs.hold, ?_⟩
        refine DW_l 7 rfl (by kernel_rfl) ?_
        refine W_bslice hs (BS.ag (vl := chV n ch) rfl (by rfl) .nil) rfl (by simp) ?_
        intro w g25 hs hg25 hf25
        refine WL_nil ?_
        refine ⟨.inr hs.hold, ?_⟩
        refine DW_l 8 rfl (by kernel_rfl) ?_
        refine app1 hs rfl rfl (by rfl) (by rfl) (by decide) (by rfl) (by omega) (by omega) ?_
        intro a2 c2 w hs _
        refine WL_nil ?_
        refine ⟨.inr hs.hold, ?_⟩
        refine DW_q hs 9 rfl (by kernel_rfl) (fun w' hw' => X_nilCheckP rfl) ?_
        refine DW_q hs 10 rfl (by kernel_rfl) (fun w' hw' => X_fieldAddr rfl rfl) ?_
        refine DW_l 11 rfl (by kernel_rfl) ?_
        refine sto (.slice _ _ _) hs rfl rfl rfl rfl (by simp) rfl ?_
        intro w hs _
        refine WL_nil ?_
        refine ⟨.inl rfl, ?_⟩
        refine DW_e (by kernel_rfl) ?_
        refine hK8 _ _ ?_
        refine CW_seq (fun K9 hK9 => ?_)
        refine DW_sH hs 7 ?_
        intro w hs _
        refine DW_q hs 0 rfl (by kernel_rfl) (fun w' hw' => X_move (v := (.pointer _)) rfl) ?_
        refine DW_q hs 1 rfl (by kernel_rfl) (fun w' hw' => X_nilCheckP rfl) ?_
        refine DW_q hs 2 rfl (by kernel_rfl) (fun w' hw' => X_fieldAddr rfl rfl) ?_
        refine DW_q hs 3 rfl (by kernel_rfl) (fun w' hw' => X_ldH hw' rfl rfl) ?_
        refine DW_q hs 4 rfl (by kernel_rfl) (fun w' hw' => X_fieldAddr rfl rfl) ?_
        refine DW_q hs 5 rfl (by kernel_rfl) (fun w' hw' => X_ldAH hw' rfl (by simp)) ?_
        refine DW_q hs 6 rfl (by kernel_rfl) (fun w' hw' => X_ldAH hw' rfl (by simp)) ?_
        refine DW_l 7 rfl (by kernel_rfl) ?_
        refine W_mapUpd hs keyN (k := n) (v := .agg (chV n ch).toArray) rfl rfl rfl ?_
        intro w hs _
        rw [mset_NV] at hs
        refine WL_nil ?_
        refine ⟨.inl rfl, ?_⟩
        refine DW_e (by kernel_rfl) ?_
        refine hK9 _ _ ?_
        refine CW_seq (fun K10 hK10 => ?_)
        refine CW_region ?_
        refine asp (.int _ _) rfl ?_
        refine WL_nil ?_
        refine hK10 _ _ ?_
        refine CW_ret ?_
        repeat (first | (with_reducible apply thenF_ret) | (with_reducible apply blockF_ret))
        try simp only [thenF, blockF, reduceIte]
        refine Post_r Tryz.results155 (.tmp rfl .nil) ?_
        try simp only [ev_tmp, ev_const, upd_ap, Nat.reduceLT, Nat.reduceEqDiff, reduceIte]
        have h12 : ¬ onCheckB n ≠ 0 := by simpa using hc8
        have e1 : callE n ch = 0 := by unfold callE; rw [if_neg h12, if_neg (by simp at hc13; omega)]
        have e2 : callN N n ch = nset N n ch := by unfold callN; rw [e1]; rfl
        rw [e1, e2]
        have hv : spl [Value.pointer (some ⟨b, 0, none⟩), .map (some r1), .slice a m c, .map (some r2)] (0 + 2) [.slice a2 (m + 1) c2] = [.pointer (some ⟨b, 0, none⟩), .map (some r1), .slice a2 (m + 1) c2, .map (some r2)] := rfl
        rw [hv] at hs
        have hs2 : St w0 _ w [eB g true (Blk 134 [.pointer (some ⟨b, 0, none⟩), .map (some r1), .slice a2 (m + 1) c2, .map (some r2)]), eM r1 encN (NV R), eR (.slice a2 (m + 1) c2) 117 7 (m + 1) (CV C ++ (chV n ch ++ [])), eM r2 encN (NV (nset N n ch)), eT b t] := hs.sel
        rw [List.append_nil, ← CV_snoc] at hs2
        exact ⟨by trivial, a2, m + 1, c2, C ++ [(n, ch)], by omega, (hs2.pack vH_own).turned _ rfl⟩
      · skip
        refine W_bslice hs (BS.ag (vl := chV n ch) rfl (by rfl) .nil) rfl (by simp) ?_
        intro w g25 hs hg25 hf25
        refine WL_nil ?_
        refine ⟨.inr hs.hold, ?_⟩
        refine DW_l 5 rfl (by kernel_rfl) ?_
        refine cll (CloneC_ok a m c C _ (hs.rd (a := a)) hm (fun _ _ => trivial)) ?_
        rintro _ w ⟨a1, c1, rfl, hnew, hf⟩
        replace hs := hs.callR hf hnew
        refine WL_nil ?_
        refine ⟨.inr hs.hold, ?_⟩
        refine DW_l 8 rfl (by kernel_rfl) ?_
        refine app1 hs rfl rfl (by rfl) (by rfl) (by decide) (by rfl) (by omega) (by omega) ?_
        intro a2 c2 w hs _
        refine WL_nil ?_
        refine ⟨.inr hs.hold, ?_⟩
        refine DW_q hs 9 rfl (by kernel_rfl) (fun w' hw' => X_nilCheckP rfl) ?_
        refine DW_q hs 10 rfl (by kernel_rfl) (fun w' hw' => X_fieldAddr rfl rfl) ?_
        refine DW_l 11 rfl (by kernel_rfl) ?_
        refine sto (.slice _ _ _) hs rfl rfl rfl rfl (by simp) rfl ?_
        intro w hs _
        refine WL_nil ?_
        refine ⟨.inl rfl, ?_⟩
        refine DW_e (by kernel_rfl) ?_
        refine hK8 _ _ ?_
        refine CW_seq (fun K11 hK11 => ?_)
        refine DW_sH hs 7 ?_
        intro w hs _
        refine DW_q hs 0 rfl (by kernel_rfl) (fun w' hw' => X_move (v := (.pointer _)) rfl) ?_
        refine DW_q hs 1 rfl (by kernel_rfl) (fun w' hw' => X_nilCheckP rfl) ?_
        refine DW_q hs 2 rfl (by kernel_rfl) (fun w' hw' => X_fieldAddr rfl rfl) ?_
        refine DW_q hs 3 rfl (by kernel_rfl) (fun w' hw' => X_ldH hw' rfl rfl) ?_
        refine DW_q hs 4 rfl (by kernel_rfl) (fun w' hw' => X_fieldAddr rfl rfl) ?_
        refine DW_q hs 5 rfl (by kernel_rfl) (fun w' hw' => X_ldAH hw' rfl (by simp)) ?_
        refine DW_q hs 6 rfl (by kernel_rfl) (fun w' hw' => X_ldAH hw' rfl (by simp)) ?_
        refine DW_l 7 rfl (by kernel_rfl) ?_
        refine W_mapUpd hs keyN (k := n) (v := .agg (chV n ch).toArray) rfl rfl rfl ?_
        intro w hs _
        rw [mset_NV] at hs
        refine WL_nil ?_
        refine ⟨.inl rfl, ?_⟩
        refine DW_e (by kernel_rfl) ?_
        refine hK11 _ _ ?_
        refine CW_seq (fun K12 hK12 => ?_)
        refine CW_region ?_
        refine asp (.int _ _) rfl ?_
        refine WL_nil ?_
        refine hK12 _ _ ?_
        refine CW_ret ?_
        repeat (first | (with_reducible apply thenF_ret) | (with_reducible apply blockF_ret))
        try simp only [thenF, blockF, reduceIte]
        refine Post_r Tryz.results155 (.tmp rfl .nil) ?_
        try simp only [ev_tmp, ev_const, upd_ap, Nat.reduceLT, Nat.reduceEqDiff, reduceIte]
        have h12 : ¬ onCheckB n ≠ 0 := by simpa using hc8
        have e1 : callE n ch = 0 := by unfold callE; rw [if_neg h12, if_neg (by simp at hc13; omega)]
        have e2 : callN N n ch = nset N n ch := by unfold callN; rw [e1]; rfl
        rw [e1, e2]
        have hv : spl [Value.pointer (some ⟨b, 0, none⟩), .map (some r1), .slice a m c, .map (some r2)] (0 + 2) [.slice a2 (m + 1) c2] = [.pointer (some ⟨b, 0, none⟩), .map (some r1), .slice a2 (m + 1) c2, .map (some r2)] := rfl
        rw [hv] at hs
        have hs2 : St w0 _ w [eB g true (Blk 134 [.pointer (some ⟨b, 0, none⟩), .map (some r1), .slice a2 (m + 1) c2, .map (some r2)]), eM r1 encN (NV R), eR (.slice a2 (m + 1) c2) 117 7 (m + 1) (CV C ++ (chV n ch ++ [])), eM r2 encN (NV (nset N n ch)), eT b t] := hs.sel
        rw [List.append_nil, ← CV_snoc] at hs2
        exact ⟨by trivial, a2, m + 1, c2, C ++ [(n, ch)], by omega, (hs2.pack vH_own).turned _ rfl⟩
theorem VSet_ok (g b r1 r2 : Nat) (t : Tr) (a : Option Addr) (m c : Nat) (R C N : Chs) (n : ONm) (s : ByteArray) (w0 : World) (hV : (eV g b r1 r2 t a m c R C N).holds w0) (ho : n.owner.size ≤ 9223372036854775807) (hm : m ≤ 1000000) :
    Ret Tryz.prog 96 #[.pointer (some ⟨g, 0, none⟩), .agg (onV n).toArray, .string s] w0 fun v w' => v = .int .i64 (callE n (s, false)) ∧ ∃ a' m' c' C', m' ≤ m + 1 ∧ Turned (eV g b r1 r2 t a m c R C N) (eV g b r1 r2 t a' m' c' R C' (callN N n (s, false))) w0 w' := by
  have hs := St.ent hV
  refine Ret_enter Tryz.func96 rfl Tryz.ntmps96 (by simp) ?_
  refine CW_seq (fun K1 hK1 => ?_)
  refine CW_region ?_
  refine bx (.agg (onV n).toArray) (vl := onV n) hs rfl rfl ?_
  intro w g4 hs hg4 hf4
  refine asp (.int _ _) rfl ?_
  refine WL_nil ?_
  refine hK1 _ _ ?_
  refine CW_seq (fun K2 hK2 => ?_)
  refine CW_region ?_
  refine mvp (.pointer _) rfl ?_
  refine ldA hs rfl (by simp) ?_
  refine mvp (.string _) rfl ?_
  refine WL_v (v := .agg (chV n (s, false)).toArray) (X_build rfl rfl) ?_
  refine cll (VCall_ok g b r1 r2 t a m c R C N n (s, false) _ (hs.he _) ho hm) ?_
  rintro _ w ⟨rfl, a', m', c', C', hm', ht⟩
  replace hs := hs.turnE rfl ht
  refine asp (.int _ _) rfl ?_
  refine WL_nil ?_
  refine hK2 _ _ ?_
  refine CW_ret ?_
  repeat (first | (with_reducible apply thenF_ret) | (with_reducible apply blockF_ret))
  try simp only [thenF, blockF, reduceIte]
  refine Post_r Tryz.results96 (.tmp rfl .nil) ?_
  try simp only [ev_tmp, ev_const, upd_ap, Nat.reduceLT, Nat.reduceEqDiff, reduceIte]
  exact ⟨by trivial, a', m', c', C', hm', (hs.sel (H' := [eV g b r1 r2 t a' m' c' R C' (callN N n (s, false))])).turned _ rfl⟩
theorem VDelete_ok (g b r1 r2 : Nat) (t : Tr) (a : Option Addr) (m c : Nat) (R C N : Chs) (n : ONm) (w0 : World) (hV : (eV g b r1 r2 t a m c R C N).holds w0) (ho : n.owner.size ≤ 9223372036854775807) (hm : m ≤ 1000000) :
    Ret Tryz.prog 105 #[.pointer (some ⟨g, 0, none⟩), .agg (onV n).toArray] w0 fun v w' => v = .int .i64 (callE n (⟨#[]⟩, true)) ∧ ∃ a' m' c' C', m' ≤ m + 1 ∧ Turned (eV g b r1 r2 t a m c R C N) (eV g b r1 r2 t a' m' c' R C' (callN N n (⟨#[]⟩, true))) w0 w' := by
  have hs := St.ent hV
  refine Ret_enter Tryz.func105 rfl Tryz.ntmps105 (by simp) ?_
  refine CW_seq (fun K1 hK1 => ?_)
  refine CW_region ?_
  refine bx (.agg (onV n).toArray) (vl := onV n) hs rfl rfl ?_
  intro w g3 hs hg3 hf3
  refine asp (.int _ _) rfl ?_
  refine WL_nil ?_
  refine hK1 _ _ ?_
  refine CW_seq (fun K2 hK2 => ?_)
  refine CW_region ?_
  refine mvp (.pointer _) rfl ?_
  refine ldA hs rfl (by simp) ?_
  refine WL_v (v := .agg (chV n (⟨#[]⟩, true)).toArray) (X_build rfl rfl) ?_
  refine cll (VCall_ok g b r1 r2 t a m c R C N n (⟨#[]⟩, true) _ (hs.he _) ho hm) ?_
  rintro _ w ⟨rfl, a', m', c', C', hm', ht⟩
  replace hs := hs.turnE rfl ht
  refine asp (.int _ _) rfl ?_
  refine WL_nil ?_
  refine hK2 _ _ ?_
  refine CW_ret ?_
  repeat (first | (with_reducible apply thenF_ret) | (with_reducible apply blockF_ret))
  try simp only [thenF, blockF, reduceIte]
  refine Post_r Tryz.results105 (.tmp rfl .nil) ?_
  try simp only [ev_tmp, ev_const, upd_ap, Nat.reduceLT, Nat.reduceEqDiff, reduceIte]
  exact ⟨by trivial, a', m', c', C', hm', (hs.sel (H' := [eV g b r1 r2 t a' m' c' R C' (callN N n (⟨#[]⟩, true))])).turned _ rfl⟩
end Go.Proofs.YtkbldndbofbkcaaGreatDoor
