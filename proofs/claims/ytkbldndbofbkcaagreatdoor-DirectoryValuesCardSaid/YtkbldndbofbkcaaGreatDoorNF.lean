/- directory: names, the first error, begin; slices.BinarySearch at strings; the reference's Same. | Plain: the values of listings and of entries. | directory: the values of listings and of entries. | slices.Insert and slices.Delete at strings. | directory: what is read and pointed at in a view. | directory: names are changed. -/
import Derived.Test.YtkbldndbofbkcaaGreatDoorNE
import Derived.Test.YtkbldndbofbkcaaGreatDoorMA
set_option linter.unusedSimpArgs false
set_option linter.unusedVariables false
/- directory: names, the first error, begin; slices.BinarySearch at strings; the reference's Same. -/
namespace Go.Proofs.YtkbldndbofbkcaaGreatDoor
open Go Go.RowKit
attribute [local irreducible] WL CW DW Ret RW
theorem OfListing_ok (b : Bir) (w0 : World) (hb : b.maker.size ≤ 4611686018427387904) :
    Ret Tryz.prog 66 #[.agg (birV b).toArray] w0 fun v w' => v = .agg (onV ⟨10, b.maker, b.num, 0, ⟨#[]⟩⟩).toArray ∧ Fm [] w0 w' := by
  have hs := St.init w0 []
  refine Ret_enter Tryz.func66 rfl Tryz.ntmps66 (by simp) ?_
  refine CW_seq (fun K1 hK1 => ?_)
  refine CW_region ?_
  refine bx (.agg (birV b).toArray) (vl := birV b) hs rfl rfl ?_
  intro w g1 hs hg1 hf1
  refine alc hs ?_
  intro w g2 hs hg2 hf2
  refine WL_nil ?_
  refine hK1 _ _ ?_
  refine CW_seq (fun K2 hK2 => ?_)
  refine CW_region ?_
  refine ldA hs rfl (by simp) ?_
  refine cll (of_ok b 10 0 ⟨#[]⟩ _) ?_
  rintro _ w ⟨rfl, hf⟩
  replace hs := hs.call hf
  refine sto (.agg (onV ⟨10, b.maker, b.num, 0, ⟨#[]⟩⟩).toArray) (vl := onV ⟨10, b.maker, b.num, 0, ⟨#[]⟩⟩) hs rfl rfl rfl rfl (by simp) rfl ?_
  intro w hs _
  replace hs : St w0 [] w (eB g2 true (Blk 93 (onV ⟨10, b.maker, b.num, 0, ⟨#[]⟩⟩)) :: _) := hs
  refine WL_nil ?_
  refine hK2 _ _ ?_
  refine CW_ret ?_
  repeat (first | (with_reducible apply thenF_ret) | (with_reducible apply blockF_ret))
  try simp only [thenF, blockF, reduceIte]
  refine Post_r Tryz.results66 (.cell rfl (lvA hs (by simp)) .nil) ?_
  try simp only [ev_tmp, ev_const, upd_ap, Nat.reduceLT, Nat.reduceEqDiff, reduceIte]
  exact ⟨by trivial, hs.fm⟩
theorem OfEntry_ok (b : Bir) (s : ByteArray) (w0 : World) (hb : b.maker.size ≤ 4611686018427387904) :
    Ret Tryz.prog 67 #[.agg (birV b).toArray, .string s] w0 fun v w' => v = .agg (onV ⟨9, b.maker, b.num, 0, s⟩).toArray ∧ Fm [] w0 w' := by
  have hs := St.init w0 []
  refine Ret_enter Tryz.func67 rfl Tryz.ntmps67 (by simp) ?_
  refine CW_seq (fun K1 hK1 => ?_)
  refine CW_region ?_
  refine bx (.agg (birV b).toArray) (vl := birV b) hs rfl rfl ?_
  intro w g2 hs hg2 hf2
  refine alc hs ?_
  intro w g4 hs hg4 hf4
  refine WL_nil ?_
  refine hK1 _ _ ?_
  refine CW_seq (fun K2 hK2 => ?_)
  refine CW_region ?_
  refine ldA hs rfl (by simp) ?_
  refine mvp (.string _) rfl ?_
  refine cll (of_ok b 9 0 s _) ?_
  rintro _ w ⟨rfl, hf⟩
  replace hs := hs.call hf
  refine sto (.agg (onV ⟨9, b.maker, b.num, 0, s⟩).toArray) (vl := onV ⟨9, b.maker, b.num, 0, s⟩) hs rfl rfl rfl rfl (by simp) rfl ?_
  intro w hs _
  replace hs : St w0 [] w (eB g4 true (Blk 93 (onV ⟨9, b.maker, b.num, 0, s⟩)) :: _) := hs
  refine WL_nil ?_
  refine hK2 _ _ ?_
  refine CW_ret ?_
  repeat (first | (with_reducible apply thenF_ret) | (with_reducible apply blockF_ret))
  try simp only [thenF, blockF, reduceIte]
  refine Post_r Tryz.results67 (.cell rfl (lvA hs (by simp)) .nil) ?_
  try simp only [ev_tmp, ev_const, upd_ap, Nat.reduceLT, Nat.reduceEqDiff, reduceIte]
  exact ⟨by trivial, hs.fm⟩
theorem ba_eq {a b : ByteArray} (h : a.data.toList = b.data.toList) : a = b := by
  cases a; cases b; simp at h; rw [h]
def ckN (s : ByteArray) : Int := if oWord s.data.toList = false ∨ s = ⟨#[46]⟩ ∨ s = ⟨#[46, 46]⟩ then 12 else 0
theorem CkName_ok (s : ByteArray) (w0 : World) : Ret Tryz.prog 40 #[.string s] w0 fun v w' => v = .int .i64 (ckN s) ∧ Fm [] w0 w' := by
  have hs := St.init w0 []
  refine Ret_enter Tryz.func40 rfl Tryz.ntmps40 (by simp) ?_
  refine CW_seq (fun K1 hK1 => ?_)
  refine CW_region ?_
  refine asp (.int _ _) rfl ?_
  refine WL_nil ?_
  refine hK1 _ _ ?_
  refine CW_seq (fun K2 hK2 => ?_)
  refine CW_seq (fun K3 hK3 => ?_)
  refine CW_region ?_
  refine mvp (.string _) rfl ?_
  refine cll (Word_ok s _) ?_
  rintro _ w ⟨rfl, hf⟩
  replace hs := hs.call hf
  refine notW rfl ?_
  refine mvp (.bool _) rfl ?_
  refine WL_g (g := 6) rfl (by decide) rfl (fun hg6 => ?_) (fun hg6 => ?_)
  · skip
    refine mvp (.string _) rfl ?_
    refine WL_gy (g := 6) rfl (by decide) rfl ?_
    refine eqS rfl rfl ?_
    first | refine pkT rfl rfl ?_ | refine pkF rfl rfl ?_
    refine mvp (.bool _) rfl ?_
    refine WL_g (g := 10) rfl (by decide) rfl (fun hg10 => ?_) (fun hg10 => ?_)
    · skip
      refine mvp (.string _) rfl ?_
      refine WL_gy (g := 10) rfl (by decide) rfl ?_
      refine eqS rfl rfl ?_
      first | refine pkT rfl rfl ?_ | refine pkF rfl rfl ?_
      refine WL_nil ?_
      refine hK3 _ _ ?_
      refine CW_cond rfl (fun hc13 => ?_) (fun hc13 => ?_)
      · skip
        refine CW_seq (fun K4 hK4 => ?_)
        refine CW_region ?_
        refine asp (.int _ _) rfl ?_
        refine WL_nil ?_
        refine hK4 _ _ ?_
        refine CW_ret ?_
        repeat (first | (with_reducible apply thenF_ret) | (with_reducible apply blockF_ret))
        try simp only [thenF, blockF, reduceIte]
        refine Post_r Tryz.results40 (.tmp rfl .nil) ?_
        try simp only [ev_tmp, ev_const, upd_ap, Nat.reduceLT, Nat.reduceEqDiff, reduceIte]
        refine ⟨?_, hs.fm⟩
        have h1 : (s = ⟨#[46]⟩) ↔ s.data.toList = [46] := ⟨fun h => by rw [h], fun h => ba_eq h⟩
        have h2 : (s = ⟨#[46, 46]⟩) ↔ s.data.toList = [46, 46] := ⟨fun h => by rw [h], fun h => ba_eq h⟩
        unfold ckN
        simp only [h1, h2]
        clear hs h1 h2
        simp_all
      · skip
        refine CW_skip ?_
        refine hK2 _ _ ?_
        refine CW_seq (fun K5 hK5 => ?_)
        refine CW_region ?_
        refine asp (.int _ _) rfl ?_
        refine WL_nil ?_
        refine hK5 _ _ ?_
        refine CW_ret ?_
        repeat (first | (with_reducible apply thenF_ret) | (with_reducible apply blockF_ret))
        try simp only [thenF, blockF, reduceIte]
        refine Post_r Tryz.results40 (.tmp rfl .nil) ?_
        try simp only [ev_tmp, ev_const, upd_ap, Nat.reduceLT, Nat.reduceEqDiff, reduceIte]
        refine ⟨?_, hs.fm⟩
        have h1 : (s = ⟨#[46]⟩) ↔ s.data.toList = [46] := ⟨fun h => by rw [h], fun h => ba_eq h⟩
        have h2 : (s = ⟨#[46, 46]⟩) ↔ s.data.toList = [46, 46] := ⟨fun h => by rw [h], fun h => ba_eq h⟩
        unfold ckN
        simp only [h1, h2]
        clear hs h1 h2
        simp_all
    · skip
      refine WL_gn (g := 10) rfl (by decide) rfl ?_
      first | refine pkT rfl rfl ?_ | refine pkF rfl rfl ?_
      refine WL_nil ?_
      refine hK3 _ _ ?_
      refine CW_condT rfl rfl ?_
      refine CW_seq (fun K6 hK6 => ?_)
      refine CW_region ?_
      refine asp (.int _ _) rfl ?_
      refine WL_nil ?_
      refine hK6 _ _ ?_
      refine CW_ret ?_
      repeat (first | (with_reducible apply thenF_ret) | (with_reducible apply blockF_ret))
      try simp only [thenF, blockF, reduceIte]
      refine Post_r Tryz.results40 (.tmp rfl .nil) ?_
      try simp only [ev_tmp, ev_const, upd_ap, Nat.reduceLT, Nat.reduceEqDiff, reduceIte]
      refine ⟨?_, hs.fm⟩
      have h1 : (s = ⟨#[46]⟩) ↔ s.data.toList = [46] := ⟨fun h => by rw [h], fun h => ba_eq h⟩
      have h2 : (s = ⟨#[46, 46]⟩) ↔ s.data.toList = [46, 46] := ⟨fun h => by rw [h], fun h => ba_eq h⟩
      unfold ckN
      simp only [h1, h2]
      clear hs h1 h2
      simp_all
  · skip
    refine WL_gn (g := 6) rfl (by decide) rfl ?_
    first | refine pkT rfl rfl ?_ | refine pkF rfl rfl ?_
    refine mvp (.bool _) rfl ?_
    refine WL_gn (g := 10) rfl (by decide) rfl ?_
    refine WL_gn (g := 10) rfl (by decide) rfl ?_
    first | refine pkT rfl rfl ?_ | refine pkF rfl rfl ?_
    refine WL_nil ?_
    refine hK3 _ _ ?_
    refine CW_condT rfl rfl ?_
    refine CW_seq (fun K7 hK7 => ?_)
    refine CW_region ?_
    refine asp (.int _ _) rfl ?_
    refine WL_nil ?_
    refine hK7 _ _ ?_
    refine CW_ret ?_
    repeat (first | (with_reducible apply thenF_ret) | (with_reducible apply blockF_ret))
    try simp only [thenF, blockF, reduceIte]
    refine Post_r Tryz.results40 (.tmp rfl .nil) ?_
    try simp only [ev_tmp, ev_const, upd_ap, Nat.reduceLT, Nat.reduceEqDiff, reduceIte]
    refine ⟨?_, hs.fm⟩
    have h1 : (s = ⟨#[46]⟩) ↔ s.data.toList = [46] := ⟨fun h => by rw [h], fun h => ba_eq h⟩
    have h2 : (s = ⟨#[46, 46]⟩) ↔ s.data.toList = [46, 46] := ⟨fun h => by rw [h], fun h => ba_eq h⟩
    unfold ckN
    simp only [h1, h2]
    clear hs h1 h2
    simp_all
/-! ### the first error -/
def ev1 (es : List Int) : List Value := es.map fun e => .int .i64 e
def fstE : List Int → Int
  | [] => 0
  | e :: t => if e ≠ 0 then e else fstE t
theorem first_ok (es : List Int) (a : Option Addr) (n c : Nat) (w0 : World) (hr : Rd w0 a n 1 (ev1 es)) (hn : n = es.length) (hl : n ≤ 100) :
    Ret Tryz.prog 93 #[.slice a n c] w0 fun v w' => v = .int .i64 (fstE es) ∧ Fm [] w0 w' := by
  have hs := St.init w0 []
  refine Ret_enter Tryz.func93 rfl Tryz.ntmps93 (by simp) ?_
  refine CW_seq (fun K1 hK1 => ?_)
  refine CW_region ?_
  refine asp (.int _ _) rfl ?_
  refine WL_nil ?_
  refine hK1 _ _ ?_
  refine CW_seq (fun K2 hK2 => ?_)
  refine CW_seq (fun K3 hK3 => ?_)
  refine CW_region ?_
  refine mvp (.slice _ _ _) rfl ?_
  refine lenW rfl ?_
  refine mvp (.int _ _) rfl ?_
  refine WL_nil ?_
  refine hK3 _ _ ?_
  refine CW_block ?_
  refine CW_loop (fun kk f w' => ∃ i : Nat, kk = n - i ∧ i ≤ n ∧ f 5 = .slice a n c ∧ f 6 = .int .i64 n ∧ f 7 = .int .i64 i ∧ fstE es = fstE (es.drop i) ∧ St w0 [] w' []) n ?_ ?_
  · exact ⟨0, by omega, by omega, rfl, rfl, rfl, rfl, hs⟩
  · rintro kk f w1 ⟨i, rfl, hi, e5, e6, e7, he, hs⟩
    refine CW_kn (i := 5) e5 (CW_kn (i := 6) e6 (CW_kn (i := 7) e7 ?_))
    refine CW_seq (fun K4 hK4 => ?_)
    refine CW_region ?_
    refine lssW rfl rfl ?_
    refine WL_nil ?_
    refine hK4 _ _ ?_
    refine CW_seq (fun K5 hK5 => ?_)
    refine CW_cond rfl (fun hc8 => ?_) (fun hc8 => ?_)
    · have hi2 : i < n := by simpa using hc8
      have hi3 : i < es.length := by omega
      obtain ⟨b, off, rfl, hcell⟩ := (hr.fm hs.fm).2 (by intro q; simp [ev1] at q; rw [q] at hi3; simp at hi3)
      refine CW_skip ?_
      refine hK5 _ _ ?_
      refine CW_seq (fun K6 hK6 => ?_)
      refine CW_block ?_
      refine CW_seq (fun K7 hK7 => ?_)
      refine CW_region ?_
      refine iad rfl rfl (by omega) ?_
      refine ldc (v := .int .i64 es[i]) rfl (by have := hcell i (.int .i64 es[i]) (by simp [ev1, hi3]); simpa using this) ?_
      refine asp (.int _ _) rfl ?_
      refine WL_nil ?_
      refine hK7 _ _ ?_
      refine CW_seq (fun K8 hK8 => ?_)
      refine CW_region ?_
      refine mvp (.int _ _) rfl ?_
      refine neqW rfl rfl ?_
      refine WL_nil ?_
      refine hK8 _ _ ?_
      refine CW_cond rfl (fun hc12 => ?_) (fun hc12 => ?_)
      · skip
        refine CW_seq (fun K9 hK9 => ?_)
        refine CW_region ?_
        refine mvp (.int _ _) rfl ?_
        refine asp (.int _ _) rfl ?_
        refine WL_nil ?_
        refine hK9 _ _ ?_
        refine CW_ret ?_
        repeat (first | (with_reducible apply thenF_ret) | (with_reducible apply blockF_ret))
        try simp only [thenF, blockF, reduceIte]
        refine Post_r Tryz.results93 (.tmp rfl .nil) ?_
        try simp only [ev_tmp, ev_const, upd_ap, Nat.reduceLT, Nat.reduceEqDiff, reduceIte]
        refine ⟨?_, hs.fm⟩
        have h12 : es[i] ≠ 0 := by simpa using hc12
        rw [he, List.drop_eq_getElem_cons hi3, fstE, if_pos h12]
      · skip
        refine CW_skip ?_
        refine hK6 _ _ ?_
        refine CW_region ?_
        first | refine addI rfl rfl (by omega) ?_ | refine addW rfl rfl ?_
        refine mvp (.int _ _) rfl ?_
        refine WL_nil ?_
        skip
        refine ⟨n - (i + 1), by omega, i + 1, rfl, by omega, rfl, rfl, rfl, ?_, hs⟩
        have h12 : es[i] = 0 := by simpa using hc12
        rw [he, List.drop_eq_getElem_cons hi3, fstE, if_neg (by rw [h12]; simp)]
    · skip
      refine CW_exit ?_
      refine hK2 _ _ ?_
      refine CW_seq (fun K10 hK10 => ?_)
      refine CW_region ?_
      refine asp (.int _ _) rfl ?_
      refine WL_nil ?_
      refine hK10 _ _ ?_
      refine CW_ret ?_
      repeat (first | (with_reducible apply thenF_ret) | (with_reducible apply blockF_ret))
      try simp only [thenF, blockF, reduceIte]
      refine Post_r Tryz.results93 (.tmp rfl .nil) ?_
      try simp only [ev_tmp, ev_const, upd_ap, Nat.reduceLT, Nat.reduceEqDiff, reduceIte]
      refine ⟨?_, hs.fm⟩
      have hi2 : i = n := by simp at hc8; omega
      rw [he, List.drop_eq_nil_of_le (by omega)]; rfl
theorem dbegin_ok (g : Nat) (b : Bir) (w0 : World) (hb : b.maker.size ≤ 4611686018427387904) :
    Ret Tryz.prog 94 #[.pointer (some ⟨g, 0, none⟩), .agg (birV b).toArray] w0 fun v w' => v = .int .i64 (birCheck b) ∧ Fm [] w0 w' := by
  have hs := St.init w0 []
  refine Ret_enter Tryz.func94 rfl Tryz.ntmps94 (by simp) ?_
  refine CW_seq (fun K1 hK1 => ?_)
  refine CW_region ?_
  refine bx (.agg (birV b).toArray) (vl := birV b) hs rfl rfl ?_
  intro w g3 hs hg3 hf3
  refine asp (.int _ _) rfl ?_
  refine WL_nil ?_
  refine hK1 _ _ ?_
  refine CW_seq (fun K2 hK2 => ?_)
  refine CW_seq (fun K3 hK3 => ?_)
  refine CW_region ?_
  refine mvp (.pointer _) rfl ?_
  refine eqnP rfl rfl ?_
  refine WL_nil ?_
  refine hK3 _ _ ?_
  refine CW_condF rfl (rfl) ?_
  refine CW_skip ?_
  refine hK2 _ _ ?_
  refine CW_seq (fun K4 hK4 => ?_)
  refine CW_region ?_
  refine ldA hs rfl (by simp) ?_
  refine cll (BCheck_ok b _ hb) ?_
  rintro _ w ⟨rfl, hf⟩
  replace hs := hs.call hf
  refine asp (.int _ _) rfl ?_
  refine WL_nil ?_
  refine hK4 _ _ ?_
  refine CW_ret ?_
  repeat (first | (with_reducible apply thenF_ret) | (with_reducible apply blockF_ret))
  try simp only [thenF, blockF, reduceIte]
  refine Post_r Tryz.results94 (.tmp rfl .nil) ?_
  try simp only [ev_tmp, ev_const, upd_ap, Nat.reduceLT, Nat.reduceEqDiff, reduceIte]
  exact ⟨by trivial, hs.fm⟩
theorem dbegin_nil (b : Bir) (w0 : World) : Ret Tryz.prog 94 #[.pointer none, .agg (birV b).toArray] w0 fun v w' => v = .int .i64 1 ∧ Fm [] w0 w' := by
  have hs := St.init w0 []
  refine Ret_enter Tryz.func94 rfl Tryz.ntmps94 (by simp) ?_
  refine CW_seq (fun K1 hK1 => ?_)
  refine CW_region ?_
  refine bx (.agg (birV b).toArray) (vl := birV b) hs rfl rfl ?_
  intro w g3 hs hg3 hf3
  refine asp (.int _ _) rfl ?_
  refine WL_nil ?_
  refine hK1 _ _ ?_
  refine CW_seq (fun K2 hK2 => ?_)
  refine CW_seq (fun K3 hK3 => ?_)
  refine CW_region ?_
  refine mvp (.pointer _) rfl ?_
  refine eqnP rfl rfl ?_
  refine WL_nil ?_
  refine hK3 _ _ ?_
  refine CW_condT rfl (rfl) ?_
  refine CW_seq (fun K4 hK4 => ?_)
  refine CW_region ?_
  refine asp (.int _ _) rfl ?_
  refine WL_nil ?_
  refine hK4 _ _ ?_
  refine CW_ret ?_
  repeat (first | (with_reducible apply thenF_ret) | (with_reducible apply blockF_ret))
  try simp only [thenF, blockF, reduceIte]
  refine Post_r Tryz.results94 (.tmp rfl .nil) ?_
  try simp only [ev_tmp, ev_const, upd_ap, Nat.reduceLT, Nat.reduceEqDiff, reduceIte]
  exact ⟨by trivial, hs.fm⟩
/-! ### strings in order -/
def bls (a b : ByteArray) : Bool := Op.bytesLess a.data.toList b.data.toList
theorem cisNaN_ok (s : ByteArray) (w0 : World) : Ret Tryz.prog 183 #[.string s] w0 fun v w' => v = .bool false ∧ Fm [] w0 w' := by
  have hs := St.init w0 []
  refine Ret_enter Tryz.func183 rfl Tryz.ntmps183 (by simp) ?_
  refine CW_seq (fun K1 hK1 => ?_)
  refine CW_region ?_
  refine asp (.bool _) rfl ?_
  refine WL_nil ?_
  refine hK1 _ _ ?_
  refine CW_seq (fun K2 hK2 => ?_)
  refine CW_region ?_
  refine mvp (.string _) rfl ?_
  refine mvp (.string _) rfl ?_
  refine neS rfl rfl ?_
  refine asp (.bool _) rfl ?_
  refine WL_nil ?_
  refine hK2 _ _ ?_
  refine CW_ret ?_
  repeat (first | (with_reducible apply thenF_ret) | (with_reducible apply blockF_ret))
  try simp only [thenF, blockF, reduceIte]
  refine Post_r Tryz.results183 (.tmp rfl .nil) ?_
  try simp only [ev_tmp, ev_const, upd_ap, Nat.reduceLT, Nat.reduceEqDiff, reduceIte]
  exact ⟨by simp, hs.fm⟩
theorem sisNaN_ok (s : ByteArray) (w0 : World) : Ret Tryz.prog 157 #[.string s] w0 fun v w' => v = .bool false ∧ Fm [] w0 w' := by
  have hs := St.init w0 []
  refine Ret_enter Tryz.func157 rfl Tryz.ntmps157 (by simp) ?_
  refine CW_seq (fun K1 hK1 => ?_)
  refine CW_region ?_
  refine asp (.bool _) rfl ?_
  refine WL_nil ?_
  refine hK1 _ _ ?_
  refine CW_seq (fun K2 hK2 => ?_)
  refine CW_region ?_
  refine mvp (.string _) rfl ?_
  refine mvp (.string _) rfl ?_
  refine neS rfl rfl ?_
  refine asp (.bool _) rfl ?_
  refine WL_nil ?_
  refine hK2 _ _ ?_
  refine CW_ret ?_
  repeat (first | (with_reducible apply thenF_ret) | (with_reducible apply blockF_ret))
  try simp only [thenF, blockF, reduceIte]
  refine Post_r Tryz.results157 (.tmp rfl .nil) ?_
  try simp only [ev_tmp, ev_const, upd_ap, Nat.reduceLT, Nat.reduceEqDiff, reduceIte]
  exact ⟨by simp, hs.fm⟩
theorem Less_ok (s t : ByteArray) (w0 : World) : Ret Tryz.prog 156 #[.string s, .string t] w0 fun v w' => v = .bool (bls s t) ∧ Fm [] w0 w' := by
  have hs := St.init w0 []
  refine Ret_enter Tryz.func156 rfl Tryz.ntmps156 (by simp) ?_
  refine CW_seq (fun K1 hK1 => ?_)
  refine CW_region ?_
  refine asp (.bool _) rfl ?_
  refine WL_nil ?_
  refine hK1 _ _ ?_
  refine CW_seq (fun K2 hK2 => ?_)
  refine CW_region ?_
  refine mvp (.string _) rfl ?_
  refine cll (cisNaN_ok s _) ?_
  rintro _ w ⟨rfl, hf⟩
  replace hs := hs.call hf
  refine mvp (.bool _) rfl ?_
  refine WL_gnb (g := 7) rfl (by decide) rfl (rfl) ?_
  refine WL_gn (g := 7) rfl (by decide) rfl ?_
  refine WL_gn (g := 7) rfl (by decide) rfl ?_
  first | refine pkT rfl rfl ?_ | refine pkF rfl rfl ?_
  refine mvp (.bool _) rfl ?_
  refine WL_gy (g := 12) rfl (by decide) rfl ?_
  refine mvp (.string _) rfl ?_
  refine WL_gy (g := 12) rfl (by decide) rfl ?_
  refine mvp (.string _) rfl ?_
  refine WL_gy (g := 12) rfl (by decide) rfl ?_
  refine WL_v (X_ltS rfl rfl) ?_
  first | refine pkT rfl rfl ?_ | refine pkF rfl rfl ?_
  refine asp (.bool _) rfl ?_
  refine WL_nil ?_
  refine hK2 _ _ ?_
  refine CW_ret ?_
  repeat (first | (with_reducible apply thenF_ret) | (with_reducible apply blockF_ret))
  try simp only [thenF, blockF, reduceIte]
  refine Post_r Tryz.results156 (.tmp rfl .nil) ?_
  try simp only [ev_tmp, ev_const, upd_ap, Nat.reduceLT, Nat.reduceEqDiff, reduceIte]
  exact ⟨by trivial, hs.fm⟩
def sbI (l : List ByteArray) (who : ByteArray) : Nat → Nat → Nat → Nat
  | 0, i, _ => i
  | k + 1, i, j => if i < j then (if bls (l.getD ((i + j) / 2) ⟨#[]⟩) who = true then sbI l who k ((i + j) / 2 + 1) j else sbI l who k i ((i + j) / 2)) else i
def sbAt (l : List ByteArray) (who : ByteArray) : Nat := sbI l who (l.length + 1) 0 l.length
def sbFound (l : List ByteArray) (who : ByteArray) : Bool := decide (sbAt l who < l.length) && decide (l.getD (sbAt l who) ⟨#[]⟩ = who)
theorem sbI_end (l : List ByteArray) (who : ByteArray) (k i j : Nat) (h : j ≤ i) : sbI l who k i j = i := by
  cases k with
  | zero => rfl
  | succ k => rw [sbI, if_neg (by omega)]
theorem sbI_le (l : List ByteArray) (who : ByteArray) : ∀ k i j, i ≤ j → sbI l who k i j ≤ j := by
  intro k
  induction k with
  | zero => intro i j h; exact h
  | succ k ih =>
    intro i j h
    rw [sbI]
    split
    · split
      · exact ih _ _ (by omega)
      · have := ih i ((i + j) / 2) (by omega); omega
    · omega
theorem sbAt_le (l : List ByteArray) (who : ByteArray) : sbAt l who ≤ l.length := sbI_le _ _ _ _ _ (Nat.zero_le _)
theorem sbI_spec (l : List ByteArray) (who : ByteArray) (mono : ∀ a b, a ≤ b → b < l.length → bls (l.getD b ⟨#[]⟩) who = true → bls (l.getD a ⟨#[]⟩) who = true) :
    ∀ k i j, j - i < k → i ≤ j → j ≤ l.length → (∀ a, a < i → bls (l.getD a ⟨#[]⟩) who = true) → (∀ b, j ≤ b → b < l.length → ¬ bls (l.getD b ⟨#[]⟩) who = true) →
      (∀ a, a < sbI l who k i j → bls (l.getD a ⟨#[]⟩) who = true) ∧ (∀ b, sbI l who k i j ≤ b → b < l.length → ¬ bls (l.getD b ⟨#[]⟩) who = true) := by
  intro k
  induction k with
  | zero => intro i j h; omega
  | succ k ih =>
    intro i j h hij hj h1 h2
    rw [sbI]
    split
    · split
      · rename_i hc
        refine ih _ _ (by omega) (by omega) hj (fun a ha => mono a ((i + j) / 2) (by omega) (by omega) hc) h2
      · rename_i hc
        refine ih _ _ (by omega) (by omega) (by omega) h1 (fun b hb hbl hq => hc (mono _ b hb hbl hq))
    · have : i = j := by omega
      subst this
      exact ⟨h1, h2⟩
theorem BSS_ok (a : Option Addr) (n c : Nat) (l : List ByteArray) (who : ByteArray) (w0 : World) (hr : Rd w0 a n 1 (sv l)) (hn : n = l.length) (hl : n ≤ 2305843009213693952) :
    Ret Tryz.prog 100 #[.slice a n c, .string who] w0 fun v w' => v = .tuple #[.int .i64 (sbAt l who), .bool (sbFound l who)] ∧ Fm [] w0 w' := by
  have hs := St.init w0 []
  refine Ret_enter Tryz.func100 rfl Tryz.ntmps100 (by simp) ?_
  refine CW_seq (fun K1 hK1 => ?_)
  refine CW_region ?_
  refine asp (.int _ _) rfl ?_
  refine asp (.bool _) rfl ?_
  refine WL_nil ?_
  refine hK1 _ _ ?_
  refine CW_seq (fun K2 hK2 => ?_)
  refine CW_region ?_
  refine mvp (.slice _ _ _) rfl ?_
  refine lenW rfl ?_
  refine asp (.int _ _) rfl ?_
  refine WL_nil ?_
  refine hK2 _ _ ?_
  refine CW_seq (fun K3 hK3 => ?_)
  refine CW_region ?_
  refine mvp (.int _ _) rfl ?_
  refine asp (.int _ _) rfl ?_
  refine asp (.int _ _) rfl ?_
  refine WL_nil ?_
  refine hK3 _ _ ?_
  refine CW_seq (fun K4 hK4 => ?_)
  refine CW_block ?_
  refine CW_loop (fun k f w' => ∃ i j k0 : Nat, k = j - i ∧ i ≤ j ∧ j ≤ n ∧ j - i < k0 ∧ sbI l who k0 i j = sbAt l who ∧ f 0 = .slice a n c ∧ f 1 = .string who ∧ f 6 = .int .i64 n ∧ f 7 = .int .i64 i ∧ f 8 = .int .i64 j ∧ St w0 [] w' []) n ?_ ?_
  · exact ⟨0, n, l.length + 1, by omega, by omega, by omega, by omega, by rw [hn]; rfl, rfl, rfl, rfl, rfl, rfl, hs⟩
  · rintro k f w1 ⟨i, j, k0, rfl, hij, hj, hk0, hb, e0, e1, e6, e7, e8, hs⟩
    refine CW_kn (i := 0) e0 (CW_kn (i := 1) e1 (CW_kn (i := 6) e6 (CW_kn (i := 7) e7 (CW_kn (i := 8) e8 ?_))))
    refine CW_seq (fun K5 hK5 => ?_)
    refine CW_seq (fun K6 hK6 => ?_)
    refine CW_region ?_
    refine mvp (.int _ _) rfl ?_
    refine mvp (.int _ _) rfl ?_
    refine lssW rfl rfl ?_
    refine WL_nil ?_
    refine hK6 _ _ ?_
    refine CW_cond rfl (fun hc15 => ?_) (fun hc15 => ?_)
    · have hlt : i < j := by simpa using hc15
      obtain ⟨h, hh⟩ : ∃ h : Nat, (i + j) / 2 = h := ⟨_, rfl⟩
      obtain ⟨k1, rfl⟩ : ∃ k1, k0 = k1 + 1 := ⟨k0 - 1, by omega⟩
      have hh2 : ((i : Int) + j) / 2 = (h : Int) := by omega
      have hh3 : h < l.length := by omega
      rw [sbI, if_pos hlt, hh] at hb
      obtain ⟨bb, off, rfl, hcell⟩ := sv_at (hr.fm hs.fm) hh3
      refine CW_skip ?_
      refine hK5 _ _ ?_
      refine CW_block ?_
      refine CW_seq (fun K7 hK7 => ?_)
      refine CW_region ?_
      refine mvp (.int _ _) rfl ?_
      refine mvp (.int _ _) rfl ?_
      first | refine addI rfl rfl (by omega) ?_ | refine addW rfl rfl ?_
      refine cviW rfl ?_
      rw [u64_wrap _ (by omega) (by omega)]
      refine shrW rfl rfl (by omega) ?_
      rw [shr1 _ (by omega), hh2]
      first | refine cviI rfl (by omega) ?_ | refine cviW rfl ?_
      refine asp (.int _ _) rfl ?_
      refine WL_nil ?_
      refine hK7 _ _ ?_
      refine CW_seq (fun K8 hK8 => ?_)
      refine CW_region ?_
      refine mvp (.slice _ _ _) rfl ?_
      refine mvp (.int _ _) rfl ?_
      refine iad rfl rfl (by omega) ?_
      refine ldc (v := .string l[h]) rfl (by simpa using hcell h hh3) ?_
      refine mvp (.string _) rfl ?_
      refine cll (Less_ok l[h] who _) ?_
      rintro _ w ⟨rfl, hf⟩
      replace hs := hs.call hf
      refine WL_nil ?_
      refine hK8 _ _ ?_
      refine CW_cond rfl (fun hc27 => ?_) (fun hc27 => ?_)
      · skip
        refine CW_region ?_
        refine mvp (.int _ _) rfl ?_
        first | refine addI rfl rfl (by omega) ?_ | refine addW rfl rfl ?_
        refine asp (.int _ _) rfl ?_
        refine WL_nil ?_
        skip
        first
          | (refine ⟨j - (h + 1), by omega, h + 1, j, k1, rfl, by omega, hj, by omega, ?_, rfl, rfl, rfl, rfl, rfl, hs⟩
             rw [if_pos (by rw [getD_at hh3]; simpa using hc27)] at hb
             exact hb)
          | (refine ⟨h - i, by omega, i, h, k1, rfl, by omega, by omega, by omega, ?_, rfl, rfl, rfl, rfl, rfl, hs⟩
             rw [if_neg (by rw [getD_at hh3]; simpa using hc27)] at hb
             exact hb)
      · skip
        refine CW_region ?_
        refine mvp (.int _ _) rfl ?_
        refine asp (.int _ _) rfl ?_
        refine WL_nil ?_
        skip
        first
          | (refine ⟨j - (h + 1), by omega, h + 1, j, k1, rfl, by omega, hj, by omega, ?_, rfl, rfl, rfl, rfl, rfl, hs⟩
             rw [if_pos (by rw [getD_at hh3]; simpa using hc27)] at hb
             exact hb)
          | (refine ⟨h - i, by omega, i, h, k1, rfl, by omega, by omega, by omega, ?_, rfl, rfl, rfl, rfl, rfl, hs⟩
             rw [if_neg (by rw [getD_at hh3]; simpa using hc27)] at hb
             exact hb)
    · have hlt : ¬ i < j := by simpa using hc15
      have hi : sbAt l who = i := by rw [← hb]; exact sbI_end _ _ _ _ _ (by omega)
      refine CW_exit ?_
      refine hK4 _ _ ?_
      refine CW_seq (fun K9 hK9 => ?_)
      refine CW_region ?_
      refine mvp (.int _ _) rfl ?_
      refine mvp (.int _ _) rfl ?_
      refine mvp (.int _ _) rfl ?_
      refine lssW rfl rfl ?_
      refine mvp (.bool _) rfl ?_
      refine WL_g (g := 35) rfl (by decide) rfl (fun hg35 => ?_) (fun hg35 => ?_)
      · skip
        have hi3 : i < l.length := by simp at hg35; omega
        obtain ⟨bb, off, rfl, hcell⟩ := sv_at (hr.fm hs.fm) hi3
        refine mvp (.slice _ _ _) rfl ?_
        refine WL_gy (g := 35) rfl (by decide) rfl ?_
        refine mvp (.int _ _) rfl ?_
        refine WL_gy (g := 35) rfl (by decide) rfl ?_
        refine iad rfl rfl (by omega) ?_
        refine WL_gy (g := 35) rfl (by decide) rfl ?_
        refine ldc (v := .string l[i]) rfl (by simpa using hcell i hi3) ?_
        refine WL_gy (g := 35) rfl (by decide) rfl ?_
        refine mvp (.string _) rfl ?_
        refine WL_gy (g := 35) rfl (by decide) rfl ?_
        refine eqS rfl rfl ?_
        refine WL_gy (g := 35) rfl (by decide) rfl ?_
        refine mvp (.bool _) rfl ?_
        refine WL_g (g := 42) rfl (by decide) rfl (fun hg42 => ?_) (fun hg42 => ?_)
        · skip
          refine mvp (.slice _ _ _) rfl ?_
          refine WL_gy (g := 42) rfl (by decide) rfl ?_
          refine mvp (.int _ _) rfl ?_
          refine WL_gy (g := 42) rfl (by decide) rfl ?_
          refine iad rfl rfl (by omega) ?_
          refine WL_gy (g := 42) rfl (by decide) rfl ?_
          refine ldc (v := .string l[i]) rfl (by simpa using hcell i hi3) ?_
          refine WL_gy (g := 42) rfl (by decide) rfl ?_
          refine cll (sisNaN_ok l[i] _) ?_
          rintro _ w ⟨rfl, hf⟩
          replace hs := hs.call hf
          refine WL_gy (g := 42) rfl (by decide) rfl ?_
          refine mvp (.bool _) rfl ?_
          refine WL_gnb (g := 48) rfl (by decide) rfl (rfl) ?_
          refine WL_gn (g := 48) rfl (by decide) rfl ?_
          refine WL_gy (g := 42) rfl (by decide) rfl ?_
          first | refine pkT rfl rfl ?_ | refine pkF rfl rfl ?_
          refine WL_gy (g := 35) rfl (by decide) rfl ?_
          first | refine pkT rfl rfl ?_ | refine pkF rfl rfl ?_
          first | refine pkT rfl rfl ?_ | refine pkF rfl rfl ?_
          refine asp (.int _ _) rfl ?_
          refine asp (.bool _) rfl ?_
          refine WL_nil ?_
          refine hK9 _ _ ?_
          refine CW_ret ?_
          repeat (first | (with_reducible apply thenF_ret) | (with_reducible apply blockF_ret))
          try simp only [thenF, blockF, reduceIte]
          refine Post_r Tryz.results100 (.tmp rfl (.tmp rfl .nil)) ?_
          try simp only [ev_tmp, ev_const, upd_ap, Nat.reduceLT, Nat.reduceEqDiff, reduceIte]
          refine ⟨?_, hs.fm⟩
          unfold sbFound
          rw [hi]
          clear hs
          first
            | (rw [decide_eq_true (show i < l.length from hi3), getD_at hi3]
               have h1 : (l[i] = who) ↔ l[i].data.toList = who.data.toList := ⟨fun h => by rw [h], fun h => ba_eq h⟩
               simp only [h1]
               simp_all; done)
            | (rw [decide_eq_false (show ¬ i < l.length by simp at hg35; omega)]; rfl)
        · skip
          refine WL_gn (g := 42) rfl (by decide) rfl ?_
          refine WL_gn (g := 42) rfl (by decide) rfl ?_
          refine WL_gn (g := 42) rfl (by decide) rfl ?_
          refine WL_gn (g := 42) rfl (by decide) rfl ?_
          refine WL_gn (g := 42) rfl (by decide) rfl ?_
          refine WL_gx (g := 48) rfl (by decide) rfl ?_
          refine WL_gx (g := 48) rfl (by decide) rfl ?_
          refine WL_gn (g := 42) rfl (by decide) rfl ?_
          refine WL_gy (g := 35) rfl (by decide) rfl ?_
          first | refine pkT rfl rfl ?_ | refine pkF rfl rfl ?_
          first | refine pkT rfl rfl ?_ | refine pkF rfl rfl ?_
          refine asp (.int _ _) rfl ?_
          refine asp (.bool _) rfl ?_
          refine WL_nil ?_
          refine hK9 _ _ ?_
          refine CW_ret ?_
          repeat (first | (with_reducible apply thenF_ret) | (with_reducible apply blockF_ret))
          try simp only [thenF, blockF, reduceIte]
          refine Post_r Tryz.results100 (.tmp rfl (.tmp rfl .nil)) ?_
          try simp only [ev_tmp, ev_const, upd_ap, Nat.reduceLT, Nat.reduceEqDiff, reduceIte]
          refine ⟨?_, hs.fm⟩
          unfold sbFound
          rw [hi]
          clear hs
          first
            | (rw [decide_eq_true (show i < l.length from hi3), getD_at hi3]
               have h1 : (l[i] = who) ↔ l[i].data.toList = who.data.toList := ⟨fun h => by rw [h], fun h => ba_eq h⟩
               simp only [h1]
               simp_all; done)
            | (rw [decide_eq_false (show ¬ i < l.length by simp at hg35; omega)]; rfl)
      · skip
        refine WL_gn (g := 35) rfl (by decide) rfl ?_
        refine WL_gn (g := 35) rfl (by decide) rfl ?_
        refine WL_gn (g := 35) rfl (by decide) rfl ?_
        refine WL_gn (g := 35) rfl (by decide) rfl ?_
        refine WL_gn (g := 35) rfl (by decide) rfl ?_
        refine WL_gn (g := 35) rfl (by decide) rfl ?_
        refine WL_gx (g := 42) rfl (by decide) rfl ?_
        refine WL_gx (g := 42) rfl (by decide) rfl ?_
        refine WL_gx (g := 42) rfl (by decide) rfl ?_
        refine WL_gx (g := 42) rfl (by decide) rfl ?_
        refine WL_gx (g := 42) rfl (by decide) rfl ?_
        refine WL_gx (g := 42) rfl (by decide) rfl ?_
        refine WL_gx (g := 48) rfl (by decide) rfl ?_
        refine WL_gx (g := 48) rfl (by decide) rfl ?_
        refine WL_gx (g := 42) rfl (by decide) rfl ?_
        refine WL_gn (g := 35) rfl (by decide) rfl ?_
        first | refine pkT rfl rfl ?_ | refine pkF rfl rfl ?_
        refine asp (.int _ _) rfl ?_
        refine asp (.bool _) rfl ?_
        refine WL_nil ?_
        refine hK9 _ _ ?_
        refine CW_ret ?_
        repeat (first | (with_reducible apply thenF_ret) | (with_reducible apply blockF_ret))
        try simp only [thenF, blockF, reduceIte]
        refine Post_r Tryz.results100 (.tmp rfl (.tmp rfl .nil)) ?_
        try simp only [ev_tmp, ev_const, upd_ap, Nat.reduceLT, Nat.reduceEqDiff, reduceIte]
        refine ⟨?_, hs.fm⟩
        unfold sbFound
        rw [hi]
        clear hs
        first
          | (rw [decide_eq_true (show i < l.length from hi3), getD_at hi3]
             have h1 : (l[i] = who) ↔ l[i].data.toList = who.data.toList := ⟨fun h => by rw [h], fun h => ba_eq h⟩
             simp only [h1]
             simp_all; done)
          | (rw [decide_eq_false (show ¬ i < l.length by simp at hg35; omega)]; rfl)
theorem Same_ok (l k : List ByteArray) (a b : Option Addr) (n c m e : Nat) (w0 : World) (hr : Rd w0 a n 1 (sv l)) (hn : n = l.length) (hr2 : Rd w0 b m 1 (sv k)) (hm : m = k.length) (hl : n ≤ 4611686018427387904) :
    Ret Tryz.prog 46 #[.slice a n c, .slice b m e] w0 fun v w' => v = .bool (decide (l = k)) ∧ Fm [] w0 w' := by
  have hs := St.initS2 hr hr2
  refine Ret_enter Tryz.func46 rfl Tryz.ntmps46 (by simp) ?_
  refine CW_seq (fun K1 hK1 => ?_)
  refine CW_region ?_
  refine asp (.bool _) rfl ?_
  refine WL_nil ?_
  refine hK1 _ _ ?_
  refine CW_seq (fun K2 hK2 => ?_)
  refine CW_seq (fun K3 hK3 => ?_)
  refine CW_region ?_
  refine mvp (.slice _ _ _) rfl ?_
  refine lenW rfl ?_
  refine mvp (.slice _ _ _) rfl ?_
  refine lenW rfl ?_
  refine neqW rfl rfl ?_
  refine WL_nil ?_
  refine hK3 _ _ ?_
  refine CW_cond rfl (fun hc10 => ?_) (fun hc10 => ?_)
  · skip
    refine CW_seq (fun K4 hK4 => ?_)
    refine CW_region ?_
    refine asp (.bool _) rfl ?_
    refine WL_nil ?_
    refine hK4 _ _ ?_
    refine CW_ret ?_
    repeat (first | (with_reducible apply thenF_ret) | (with_reducible apply blockF_ret))
    try simp only [thenF, blockF, reduceIte]
    refine Post_r Tryz.results46 (.tmp rfl .nil) ?_
    try simp only [ev_tmp, ev_const, upd_ap, Nat.reduceLT, Nat.reduceEqDiff, reduceIte]
    refine ⟨?_, hs.fm⟩
    rw [decide_eq_false]
    rintro rfl
    simp at hc10; omega
  · have hnm : n = m := by simp at hc10; omega
    subst hnm
    refine CW_skip ?_
    refine hK2 _ _ ?_
    refine CW_seq (fun K5 hK5 => ?_)
    refine CW_seq (fun K6 hK6 => ?_)
    refine CW_region ?_
    refine asp (.int _ _) rfl ?_
    refine WL_nil ?_
    refine hK6 _ _ ?_
    refine CW_block ?_
    refine CW_loop (fun kk f w' => ∃ i : Nat, kk = n - i ∧ i ≤ n ∧ f 0 = .slice a n c ∧ f 1 = .slice b n e ∧ f 5 = .int .i64 i ∧ l.take i = k.take i ∧ St w0 [] w' [eS [(a, n, sv l), (b, n, sv k)]]) n ?_ ?_
    · exact ⟨0, by omega, by omega, rfl, rfl, rfl, by simp, hs⟩
    · rintro kk f w1 ⟨i, rfl, hi, e0, e1, e5, hh, hs⟩
      refine CW_kn (i := 0) e0 (CW_kn (i := 1) e1 (CW_kn (i := 5) e5 ?_))
      refine CW_seq (fun K7 hK7 => ?_)
      refine CW_seq (fun K8 hK8 => ?_)
      refine CW_region ?_
      refine mvp (.int _ _) rfl ?_
      refine mvp (.slice _ _ _) rfl ?_
      refine lenW rfl ?_
      refine lssW rfl rfl ?_
      refine WL_nil ?_
      refine hK8 _ _ ?_
      refine CW_cond rfl (fun hc14 => ?_) (fun hc14 => ?_)
      · have hi2 : i < n := by simpa using hc14
        have hi3 : i < l.length := by omega
        have hi4 : i < k.length := by omega
        obtain ⟨b1, o1, rfl, hcell⟩ := sv_at (hr.fm hs.fm) hi3
        obtain ⟨b2, o2, rfl, hcell2⟩ := sv_at (hr2.fm hs.fm) hi4
        refine CW_skip ?_
        refine hK7 _ _ ?_
        refine CW_seq (fun K9 hK9 => ?_)
        refine CW_block ?_
        refine CW_seq (fun K10 hK10 => ?_)
        refine DW_sH hs 999 ?_
        intro w hs _
        refine DW_q hs 0 rfl (by kernel_rfl) (fun w' hw' => X_move (v := (.slice _ _ _)) rfl) ?_
        refine DW_q hs 1 rfl (by kernel_rfl) (fun w' hw' => X_move (v := (.int _ _)) rfl) ?_
        refine DW_q hs 2 rfl (by kernel_rfl) (fun w' hw' => X_indexAddr rfl rfl (by omega) (by omega) rfl) ?_
        refine DW_q hs 3 rfl (by kernel_rfl) (fun w' hw' => X_ldS (xs := sv l) (j := i) (v := .string l[i]) hw' (.head _) (by simp [sv, hi3]) rfl) ?_
        refine DW_q hs 4 rfl (by kernel_rfl) (fun w' hw' => X_move (v := (.slice _ _ _)) rfl) ?_
        refine DW_q hs 5 rfl (by kernel_rfl) (fun w' hw' => X_move (v := (.int _ _)) rfl) ?_
        refine DW_q hs 6 rfl (by kernel_rfl) (fun w' hw' => X_indexAddr rfl rfl (by omega) (by omega) rfl) ?_
        refine DW_q hs 7 rfl (by kernel_rfl) (fun w' hw' => X_ldS (xs := sv k) (j := i) (v := .string k[i]) hw' (.tail _ (.head _)) (by simp [sv, hi4]) rfl) ?_
        refine DW_q hs 8 rfl (by kernel_rfl) (fun w' hw' => X_neS rfl rfl) ?_
        refine DW_e (by kernel_rfl) ?_
        refine hK10 _ _ ?_
        refine CW_cond rfl (fun hc25 => ?_) (fun hc25 => ?_)
        · skip
          refine CW_seq (fun K11 hK11 => ?_)
          refine CW_region ?_
          refine asp (.bool _) rfl ?_
          refine WL_nil ?_
          refine hK11 _ _ ?_
          refine CW_ret ?_
          repeat (first | (with_reducible apply thenF_ret) | (with_reducible apply blockF_ret))
          try simp only [thenF, blockF, reduceIte]
          refine Post_r Tryz.results46 (.tmp rfl .nil) ?_
          try simp only [ev_tmp, ev_const, upd_ap, Nat.reduceLT, Nat.reduceEqDiff, reduceIte]
          refine ⟨?_, hs.fm⟩
          rw [decide_eq_false]
          rintro rfl
          simp at hc25
        · skip
          refine CW_skip ?_
          refine hK9 _ _ ?_
          refine CW_region ?_
          refine mvp (.int _ _) rfl ?_
          first | refine addI rfl rfl (by omega) ?_ | refine addW rfl rfl ?_
          refine asp (.int _ _) rfl ?_
          refine WL_nil ?_
          skip
          refine ⟨n - (i + 1), by omega, i + 1, rfl, by omega, rfl, rfl, rfl, ?_, hs⟩
          rw [List.take_add_one, List.take_add_one, hh, List.getElem?_eq_getElem hi3, List.getElem?_eq_getElem hi4]
          have h44 : l[i] = k[i] := ba_eq (by simpa using hc25)
          rw [h44]
      · skip
        refine CW_exit ?_
        refine hK5 _ _ ?_
        refine CW_seq (fun K12 hK12 => ?_)
        refine CW_region ?_
        refine asp (.bool _) rfl ?_
        refine WL_nil ?_
        refine hK12 _ _ ?_
        refine CW_ret ?_
        repeat (first | (with_reducible apply thenF_ret) | (with_reducible apply blockF_ret))
        try simp only [thenF, blockF, reduceIte]
        refine Post_r Tryz.results46 (.tmp rfl .nil) ?_
        try simp only [ev_tmp, ev_const, upd_ap, Nat.reduceLT, Nat.reduceEqDiff, reduceIte]
        refine ⟨?_, hs.fm⟩
        have hi2 : i = n := by simp at hc14; omega
        rw [hi2, List.take_of_length_le (by omega), List.take_of_length_le (by omega)] at hh
        rw [decide_eq_true hh]
end Go.Proofs.YtkbldndbofbkcaaGreatDoor
/- Plain: the values of listings and of entries. -/
namespace Go.Proofs.YtkbldndbofbkcaaGreatDoor
open Go Go.RowKit
def ckCk : Option ByteArray → List ByteArray → Int
  | _, [] => 0
  | p, h :: t => if ckN h ≠ 0 then ckN h else if (match p with | some q => !bls q h | none => false) = true then 32 else ckCk (some h) t
def ckAt (l : List ByteArray) (i : Nat) : Int := ckCk (if i = 0 then none else l[i - 1]?) (l.drop i)
theorem ckAt_step {l : List ByteArray} {i : Nat} (h : i < l.length) : ckAt l i = if ckN l[i] ≠ 0 then ckN l[i] else if 0 < i ∧ bls (l.getD (i - 1) ⟨#[]⟩) l[i] = false then 32 else ckAt l (i + 1) := by
  have h2 : l[i + 1 - 1]? = some l[i] := List.getElem?_eq_getElem (by omega)
  unfold ckAt
  rw [List.drop_eq_getElem_cons h, if_neg (show ¬ i + 1 = 0 by omega), h2]
  rcases Nat.eq_zero_or_pos i with rfl | hp
  · simp [ckCk]
  · have h1 : l[i - 1]? = some l[i - 1] := List.getElem?_eq_getElem (by omega)
    rw [if_neg (by omega), h1]
    simp [ckCk, hp, List.getD, h1]
theorem ckAt_end {l : List ByteArray} {i : Nat} (h : l.length ≤ i) : ckAt l i = 0 := by
  unfold ckAt; rw [List.drop_eq_nil_of_le h]; unfold ckCk; rfl
def ckNs (l : List ByteArray) : Int := if 256 < l.length then 9 else ckAt l 0
theorem ckAt_all {l : List ByteArray} : ∀ i, ckAt l i = 0 → ∀ j (h : j < l.length), i ≤ j → ckN l[j] = 0 ∧ (0 < j → i < j → bls (l.getD (j - 1) ⟨#[]⟩) l[j] = true) := by
  have key : ∀ k i, l.length - i = k → ckAt l i = 0 → ∀ j (h : j < l.length), i ≤ j → ckN l[j] = 0 ∧ (0 < j → i < j → bls (l.getD (j - 1) ⟨#[]⟩) l[j] = true) := by
    intro k
    induction k with
    | zero => intro i hk _ j h hj; omega
    | succ k ih =>
      intro i hk h0 j h hj
      rw [ckAt_step (by omega)] at h0
      by_cases h1 : ckN l[i] ≠ 0
      · rw [if_pos h1] at h0; exact absurd h0 h1
      · rw [if_neg h1] at h0
        split at h0
        · cases h0
        · rename_i h2
          have h3 := ih (i + 1) (by omega) h0
          rcases Nat.lt_or_eq_of_le hj with q | q
          · refine ⟨(h3 j h q).1, fun _ _ => ?_⟩
            rcases Nat.lt_or_eq_of_le q with q2 | q2
            · exact (h3 j h q).2 (by omega) q2
            · rw [← Bool.not_eq_false]
              intro hb
              by_cases hb2 : bls (l.getD (j - 1) ⟨#[]⟩) l[j] = true
              · rw [hb2] at hb; cases hb
              · have : j < l.length := h
                rw [show ckAt l (i + 1) = _ from ckAt_step (by omega)] at h0
                subst q2
                have h5 : ckN l[i + 1] = 0 := (h3 (i + 1) h (Nat.le_refl _)).1
                rw [if_neg (by rw [h5]; simp), if_pos ⟨by omega, hb⟩] at h0
                cases h0
          · subst q
            exact ⟨by simpa using h1, fun _ h => by omega⟩
  exact fun i => key _ i rfl
theorem ckNs_0 {l : List ByteArray} (h : ckNs l = 0) : l.length ≤ 256 ∧ (∀ j (h : j < l.length), ckN l[j] = 0) ∧ (∀ j (h : j + 1 < l.length), bls l[j] l[j + 1] = true) := by
  unfold ckNs at h
  split at h
  · cases h
  · have h2 := ckAt_all 0 h
    refine ⟨by omega, fun j hj => (h2 j hj (Nat.zero_le _)).1, fun j hj => ?_⟩
    have h3 := (h2 (j + 1) hj (Nat.zero_le _)).2 (by omega) (by omega)
    rw [Nat.add_sub_cancel, show l.getD j ⟨#[]⟩ = l[j] by simp [List.getD, show j < l.length by omega]] at h3
    exact h3
theorem ckNs_of {l : List ByteArray} (h0 : l.length ≤ 256) (h1 : ∀ j (h : j < l.length), ckN l[j] = 0) (h2 : ∀ j (h : j + 1 < l.length), bls l[j] l[j + 1] = true) : ckNs l = 0 := by
  have key : ∀ k i, l.length - i = k → ckAt l i = 0 := by
    intro k
    induction k with
    | zero => intro i hk; exact ckAt_end (by omega)
    | succ k ih =>
      intro i hk
      rw [ckAt_step (by omega), if_neg (by rw [h1]; simp), if_neg, ih (i + 1) (by omega)]
      rintro ⟨q1, q2⟩
      obtain ⟨j, rfl⟩ : ∃ j, i = j + 1 := ⟨i - 1, by omega⟩
      rw [Nat.add_sub_cancel, show l.getD j ⟨#[]⟩ = l[j] by simp [List.getD, show j < l.length by omega], h2 j (by omega)] at q2
      cases q2
  unfold ckNs
  rw [if_neg (by omega)]
  exact key _ 0 rfl
theorem ckN_short {s : ByteArray} (h : ckN s = 0) : s.data.toList.length ≤ 32 := by
  unfold ckN at h
  split at h
  · cases h
  · rename_i hc
    have h2 : oWord s.data.toList = true := by
      by_cases q : oWord s.data.toList = true
      · exact q
      · exact absurd (.inl (by simpa using q)) hc
    unfold oWord at h2
    simp only [Bool.and_eq_true, decide_eq_true_eq] at h2
    exact h2.1.2
def nsEnc (l : List ByteArray) : List UInt8 := vnat l.length ++ l.flatMap fun h => encT h.data.toList
def nsRd (bs : List UInt8) : List ByteArray × RS :=
  ((rTs 32 bs (rN 256 bs (0, 0)).1 (rN 256 bs (0, 0)).2).1.map str, (rTs 32 bs (rN 256 bs (0, 0)).1 (rN 256 bs (0, 0)).2).2)
def nsDec (bs : List UInt8) : Option (List ByteArray) := if rClose bs (nsRd bs).2 = 0 ∧ ckNs (nsRd bs).1 = 0 then some (nsRd bs).1 else none
def dnR (bs : List UInt8) : List ByteArray × Int := match nsDec bs with | some l => (l, 0) | none => ([], 3)
theorem nsRd_enc {l : List ByteArray} (hc : ckNs l = 0) : nsRd (nsEnc l) = (l, ((nsEnc l).length, 0)) := by
  obtain ⟨h1, h2, _⟩ := ckNs_0 hc
  have hl : ∀ t ∈ l.map (fun h => h.data.toList), t.length ≤ min 32 16777216 := by
    intro t ht
    obtain ⟨h, hh, rfl⟩ := List.mem_map.1 ht
    obtain ⟨j, hj, rfl⟩ := List.getElem_of_mem hh
    have := ckN_short (h2 j hj)
    omega
  have e1 : (rN 256 (nsEnc l) (0, 0)) = (l.length, (0 + (vnat l.length).length, 0)) :=
    rstep_rd (cdcN _ (by decide)) (by omega) (rest := l.flatMap fun h => encT h.data.toList) (by simp [nsEnc])
  have d1 : (nsEnc l).drop (0 + (vnat l.length).length) = l.flatMap fun h => encT h.data.toList := drop_more (by simp [nsEnc])
  have e4 := rTs_rd (rest := []) (l.map (fun h => h.data.toList)) hl (by rw [d1]; simp [List.flatMap_map]) l.length (by simp)
  have e5 : (l.map (fun h => h.data.toList)).take l.length = l.map (fun h => h.data.toList) := List.take_of_length_le (by simp)
  rw [e5] at e4
  unfold nsRd
  simp only [e1, e4]
  have e6 : (l.map (fun h => h.data.toList)).map str = l := by
    rw [List.map_map]; exact (List.map_congr_left (fun a _ => str_self a)).trans (List.map_id _)
  rw [e6]
  refine Prod.ext rfl (Prod.ext ?_ rfl)
  simp only [nsEnc, List.length_append, List.flatMap_map]
  omega
theorem rClose_0 {bs : List UInt8} {s : RS} (h : rClose bs s = 0) : s.2 = 0 ∧ bs.length ≤ s.1 := by
  unfold rClose at h
  split at h
  · cases h
  · rename_i hc
    refine ⟨h, ?_⟩
    rcases Nat.lt_or_ge s.1 bs.length with h1 | h1
    · exact absurd ⟨h, h1⟩ hc
    · exact h1
theorem nsRd_inv {bs : List UInt8} (h : rClose bs (nsRd bs).2 = 0) : bs = nsEnc (nsRd bs).1 := by
  obtain ⟨h1, h2⟩ := rClose_0 h
  unfold nsRd at h1 h2 ⊢
  simp only at h1 h2 ⊢
  obtain ⟨k1, k2, k3⟩ := rTs_inv _ h1
  obtain ⟨_, j2, j3⟩ := rstep_inv (cdcN 256 (by decide)) k1
  rw [List.drop_eq_nil_of_le h2] at k2
  simp only [List.drop_zero] at j2
  unfold nsEnc
  simp only [List.length_map, rTs_len, List.flatMap_map, data_str]
  rw [List.append_nil] at k2
  exact j2.trans (congrArg (fun z => vnat (rN 256 bs (0, 0)).1 ++ z) k2)
theorem nsDec_iff {bs : List UInt8} {l : List ByteArray} : nsDec bs = some l ↔ ckNs l = 0 ∧ bs = nsEnc l := by
  unfold nsDec
  constructor
  · intro h
    split at h
    · rename_i hc
      injection h with h
      rw [← h]
      exact ⟨hc.2, nsRd_inv hc.1⟩
    · cases h
  · rintro ⟨hc, rfl⟩
    rw [nsRd_enc hc]
    simp [rClose, hc]
theorem dnR_enc {l : List ByteArray} (h : ckNs l = 0) : dnR (nsEnc l) = (l, 0) := by
  unfold dnR; rw [nsDec_iff.2 ⟨h, rfl⟩]
theorem nsEnc_len {l : List ByteArray} (h : ckNs l = 0) : (nsEnc l).length ≤ 10 + l.length * 42 := by
  obtain ⟨_, h2, _⟩ := ckNs_0 h
  have h3 : ∀ x ∈ l, x.data.toList.length ≤ 32 := fun x hx => by
    obtain ⟨j, hj, rfl⟩ := List.getElem_of_mem hx
    exact ckN_short (h2 j hj)
  unfold nsEnc
  have h1 := vnat_le l.length
  rw [List.length_append]
  have key : ∀ k : List ByteArray, (∀ x ∈ k, x.data.toList.length ≤ 32) → (k.flatMap fun h => encT h.data.toList).length ≤ k.length * 42 := by
    intro k hk
    induction k with
    | nil => simp
    | cons x k ih =>
      rw [List.flatMap_cons, List.length_append, List.length_cons, Nat.add_mul]
      have := ih (fun y hy => hk y (List.mem_cons.2 (.inr hy)))
      have h4 := hk x (List.mem_cons.2 (.inl rfl))
      have h5 := vnat_le x.data.toList.length
      have h6 : (encT x.data.toList).length = (vnat x.data.toList.length).length + x.data.toList.length := by unfold encT; rw [List.length_append]
      omega
  have := key l h3
  omega
/-! ### births -/
def birEnc (b : Bir) : List UInt8 := encT b.maker.data.toList ++ vnat b.num.toNat
def birRd (bs : List UInt8) : Bir × RS := (⟨str (rT 64 bs (0, 0)).1, (rN 1073741824 bs (rT 64 bs (0, 0)).2).1⟩, (rN 1073741824 bs (rT 64 bs (0, 0)).2).2)
def birDec (bs : List UInt8) : Option Bir := if rClose bs (birRd bs).2 = 0 ∧ birCheck (birRd bs).1 = 0 then some (birRd bs).1 else none
def dbR (bs : List UInt8) : Bir × Int := match birDec bs with | some b => (b, 0) | none => (⟨⟨#[]⟩, 0⟩, 3)
theorem birCheck_0 {b : Bir} (h : birCheck b = 0) : lvalid b.maker.data.toList = true ∧ 0 ≤ b.num ∧ b.num ≤ 1073741824 := by
  unfold birCheck at h
  split at h
  · rename_i h1
    refine ⟨h1, ?_⟩
    split at h
    · rename_i h2
      unfold okNum at h2
      simp at h2; omega
    · cases h
  · cases h
theorem birRd_enc {b : Bir} (h : birCheck b = 0) : birRd (birEnc b) = (b, ((birEnc b).length, 0)) := by
  obtain ⟨h1, h2, h3⟩ := birCheck_0 h
  have hs := lvalid_short h1
  have e1 : rT 64 (birEnc b) (0, 0) = (b.maker.data.toList, (0 + (encT b.maker.data.toList).length, 0)) :=
    rstep_rd (cdcT 64) (by omega) (rest := vnat b.num.toNat) (by simp [birEnc])
  have d1 : (birEnc b).drop (0 + (encT b.maker.data.toList).length) = vnat b.num.toNat := drop_more (by simp [birEnc])
  have e2 : rN 1073741824 (birEnc b) (0 + (encT b.maker.data.toList).length, 0) = (b.num.toNat, (0 + (encT b.maker.data.toList).length + (vnat b.num.toNat).length, 0)) :=
    rstep_rd (cdcN _ (by decide)) (by omega) (rest := []) (by rw [d1]; simp)
  unfold birRd
  simp only [e1, e2]
  have e3 : ((b.num.toNat : Nat) : Int) = b.num := by omega
  rw [e3]
  refine Prod.ext rfl (Prod.ext ?_ rfl)
  simp [birEnc]
theorem birRd_inv {bs : List UInt8} (h : rClose bs (birRd bs).2 = 0) : bs = birEnc (birRd bs).1 := by
  obtain ⟨h1, h2⟩ := rClose_0 h
  unfold birRd at h1 h2 ⊢
  simp only at h1 h2 ⊢
  obtain ⟨_, j2, j3⟩ := rstep_inv (cdcN 1073741824 (by decide)) h1
  have k1 := rstep_err h1
  obtain ⟨_, i2, i3⟩ := rstep_inv (cdcT 64) k1
  simp only [List.drop_zero] at i2
  have h4 : List.drop (rN 1073741824 bs (rT 64 bs (0, 0)).2).2.1 bs = [] := List.drop_eq_nil_of_le h2
  unfold birEnc
  rw [data_str]
  refine i2.trans (congrArg (fun z => encT (rT 64 bs (0, 0)).1 ++ z) (j2.trans ?_))
  rw [Int.toNat_natCast]
  refine (congrArg (fun z => vnat (rN 1073741824 bs (rT 64 bs (0, 0)).2).1 ++ z) h4).trans (List.append_nil _)
theorem birDec_iff {bs : List UInt8} {b : Bir} : birDec bs = some b ↔ birCheck b = 0 ∧ bs = birEnc b := by
  unfold birDec
  constructor
  · intro h
    split at h
    · rename_i hc
      injection h with h
      rw [← h]
      exact ⟨hc.2, birRd_inv hc.1⟩
    · cases h
  · rintro ⟨hc, rfl⟩
    rw [birRd_enc hc]
    simp [rClose, hc]
theorem dbR_enc {b : Bir} (h : birCheck b = 0) : dbR (birEnc b) = (b, 0) := by
  unfold dbR; rw [birDec_iff.2 ⟨h, rfl⟩]
theorem birEnc_len {b : Bir} (h : birCheck b = 0) : (birEnc b).length ≤ 75 := by
  have hs := lvalid_short (birCheck_0 h).1
  unfold birEnc encT
  have h1 := vnat_le b.maker.data.toList.length
  have h2 := vnat_le b.num.toNat
  simp only [List.length_append]
  omega
end Go.Proofs.YtkbldndbofbkcaaGreatDoor
/- directory: the values of listings and of entries. -/
namespace Go.Proofs.YtkbldndbofbkcaaGreatDoor
open Go Go.RowKit
attribute [local irreducible] WL CW DW Ret RW
theorem ckNames_ok (l : List ByteArray) (a : Option Addr) (n c : Nat) (w0 : World) (hr : Rd w0 a n 1 (sv l)) (hn : n = l.length) (hl : n ≤ 4611686018427387904) :
    Ret Tryz.prog 109 #[.slice a n c] w0 fun v w' => v = .int .i64 (ckNs l) ∧ Fm [] w0 w' := by
  have hs := St.init w0 []
  refine Ret_enter Tryz.func109 rfl Tryz.ntmps109 (by simp) ?_
  refine CW_seq (fun K1 hK1 => ?_)
  refine CW_region ?_
  refine asp (.int _ _) rfl ?_
  refine WL_nil ?_
  refine hK1 _ _ ?_
  refine CW_seq (fun K2 hK2 => ?_)
  refine CW_seq (fun K3 hK3 => ?_)
  refine CW_region ?_
  refine mvp (.slice _ _ _) rfl ?_
  refine lenW rfl ?_
  refine gtrW rfl rfl ?_
  refine WL_nil ?_
  refine hK3 _ _ ?_
  refine CW_cond rfl (fun hc8 => ?_) (fun hc8 => ?_)
  · skip
    refine CW_seq (fun K4 hK4 => ?_)
    refine CW_region ?_
    refine asp (.int _ _) rfl ?_
    refine WL_nil ?_
    refine hK4 _ _ ?_
    refine CW_ret ?_
    repeat (first | (with_reducible apply thenF_ret) | (with_reducible apply blockF_ret))
    try simp only [thenF, blockF, reduceIte]
    refine Post_r Tryz.results109 (.tmp rfl .nil) ?_
    try simp only [ev_tmp, ev_const, upd_ap, Nat.reduceLT, Nat.reduceEqDiff, reduceIte]
    refine ⟨?_, hs.fm⟩
    unfold ckNs; rw [if_pos (by simp at hc8; omega)]
  · have h256 : ¬ 256 < l.length := by simp at hc8; omega
    have hck : ckNs l = ckAt l 0 := by unfold ckNs; rw [if_neg h256]
    refine CW_skip ?_
    refine hK2 _ _ ?_
    refine CW_seq (fun K5 hK5 => ?_)
    refine CW_seq (fun K6 hK6 => ?_)
    refine CW_region ?_
    refine mvp (.slice _ _ _) rfl ?_
    refine lenW rfl ?_
    refine mvp (.int _ _) rfl ?_
    refine WL_nil ?_
    refine hK6 _ _ ?_
    refine CW_block ?_
    refine CW_loop (fun kk f w' => ∃ i : Nat, kk = n - i ∧ i ≤ n ∧ f 0 = .slice a n c ∧ f 9 = .slice a n c ∧ f 10 = .int .i64 n ∧ f 11 = .int .i64 i ∧ ckNs l = ckAt l i ∧ St w0 [] w' []) n ?_ ?_
    · exact ⟨0, by omega, by omega, rfl, rfl, rfl, rfl, hck, hs⟩
    · rintro kk f w1 ⟨i, rfl, hi, e0, e9, e10, e11, he, hs⟩
      refine CW_kn (i := 0) e0 (CW_kn (i := 9) e9 (CW_kn (i := 10) e10 (CW_kn (i := 11) e11 ?_)))
      refine CW_seq (fun K7 hK7 => ?_)
      refine CW_region ?_
      refine lssW rfl rfl ?_
      refine WL_nil ?_
      refine hK7 _ _ ?_
      refine CW_seq (fun K8 hK8 => ?_)
      refine CW_cond rfl (fun hc12 => ?_) (fun hc12 => ?_)
      · have hi2 : i < n := by simpa using hc12
        have hi3 : i < l.length := by omega
        obtain ⟨b, off, rfl, hcell⟩ := sv_at (hr.fm hs.fm) hi3
        refine CW_skip ?_
        refine hK8 _ _ ?_
        refine CW_seq (fun K9 hK9 => ?_)
        refine CW_block ?_
        refine CW_seq (fun K10 hK10 => ?_)
        refine CW_region ?_
        refine mvp (.int _ _) rfl ?_
        refine iad rfl rfl (by omega) ?_
        refine ldc (v := .string l[i]) rfl (by simpa using hcell i hi3) ?_
        refine asp (.int _ _) rfl ?_
        refine asp (.string _) rfl ?_
        refine WL_nil ?_
        refine hK10 _ _ ?_
        refine CW_seq (fun K11 hK11 => ?_)
        refine CW_seq (fun K12 hK12 => ?_)
        refine CW_region ?_
        refine mvp (.string _) rfl ?_
        refine cll (CkName_ok l[i] _) ?_
        rintro _ w ⟨rfl, hf⟩
        replace hs := hs.call hf
        refine asp (.int _ _) rfl ?_
        refine WL_nil ?_
        refine hK12 _ _ ?_
        refine CW_seq (fun K13 hK13 => ?_)
        refine CW_region ?_
        refine mvp (.int _ _) rfl ?_
        refine neqW rfl rfl ?_
        refine WL_nil ?_
        refine hK13 _ _ ?_
        refine CW_cond rfl (fun hc19 => ?_) (fun hc19 => ?_)
        · skip
          refine CW_seq (fun K14 hK14 => ?_)
          refine CW_region ?_
          refine mvp (.int _ _) rfl ?_
          refine asp (.int _ _) rfl ?_
          refine WL_nil ?_
          refine hK14 _ _ ?_
          refine CW_ret ?_
          repeat (first | (with_reducible apply thenF_ret) | (with_reducible apply blockF_ret))
          try simp only [thenF, blockF, reduceIte]
          refine Post_r Tryz.results109 (.tmp rfl .nil) ?_
          try simp only [ev_tmp, ev_const, upd_ap, Nat.reduceLT, Nat.reduceEqDiff, reduceIte]
          refine ⟨?_, hs.fm⟩
          have h19 : ckN l[i] ≠ 0 := by simpa using hc19
          rw [he, ckAt_step hi3, if_pos h19]
        · skip
          refine CW_skip ?_
          refine hK11 _ _ ?_
          refine CW_seq (fun K15 hK15 => ?_)
          refine CW_region ?_
          refine mvp (.int _ _) rfl ?_
          refine gtrW rfl rfl ?_
          refine mvp (.bool _) rfl ?_
          refine WL_g (g := 23) rfl (by decide) rfl (fun hg23 => ?_) (fun hg23 => ?_)
          · skip
            refine mvp (.slice _ _ _) rfl ?_
            refine WL_gy (g := 23) rfl (by decide) rfl ?_
            refine mvp (.int _ _) rfl ?_
            refine WL_gy (g := 23) rfl (by decide) rfl ?_
            have hi0 : 0 < i := by simpa using hg23
            refine WL_v (v := .int .i64 ((i - 1 : Nat) : Int)) (X_subE rfl rfl (by rw [wrap_in (by omega) (by omega)]; omega)) ?_
            obtain ⟨b', off', e', hcell'⟩ := sv_at (hr.fm hs.fm) (i := i - 1) (by omega)
            injection e' with e'; injection e' with e1' e2'; subst e1' e2'
            refine WL_gy (g := 23) rfl (by decide) rfl ?_
            refine iad rfl rfl (by omega) ?_
            refine WL_gy (g := 23) rfl (by decide) rfl ?_
            refine ldc (v := .string l[i - 1]) rfl (by simpa using hcell' (i - 1) (by omega)) ?_
            refine WL_gy (g := 23) rfl (by decide) rfl ?_
            refine mvp (.string _) rfl ?_
            refine WL_gy (g := 23) rfl (by decide) rfl ?_
            refine WL_v (X_geS rfl rfl) ?_
            first | refine pkT rfl rfl ?_ | refine pkF rfl rfl ?_
            refine WL_nil ?_
            refine hK15 _ _ ?_
            refine CW_cond rfl (fun hc31 => ?_) (fun hc31 => ?_)
            · skip
              refine CW_seq (fun K16 hK16 => ?_)
              refine CW_region ?_
              refine asp (.int _ _) rfl ?_
              refine WL_nil ?_
              refine hK16 _ _ ?_
              refine CW_ret ?_
              repeat (first | (with_reducible apply thenF_ret) | (with_reducible apply blockF_ret))
              try simp only [thenF, blockF, reduceIte]
              refine Post_r Tryz.results109 (.tmp rfl .nil) ?_
              try simp only [ev_tmp, ev_const, upd_ap, Nat.reduceLT, Nat.reduceEqDiff, reduceIte]
              refine ⟨?_, hs.fm⟩
              have h19 : ckN l[i] = 0 := by simpa using hc19
              have e5 : l.getD (i - 1) ⟨#[]⟩ = l[i - 1] := by simp [List.getD, show i - 1 < l.length by omega]
              have h31 : bls l[i - 1] l[i] = false := by simpa [bls] using hc31
              rw [he, ckAt_step hi3, if_neg (by rw [h19]; simp), if_pos ⟨hi0, by rw [e5]; exact h31⟩]
            · skip
              refine CW_skip ?_
              refine hK9 _ _ ?_
              refine CW_region ?_
              first | refine addI rfl rfl (by omega) ?_ | refine addW rfl rfl ?_
              refine mvp (.int _ _) rfl ?_
              refine WL_nil ?_
              skip
              refine ⟨n - (i + 1), by omega, i + 1, rfl, by omega, rfl, rfl, rfl, rfl, ?_, hs⟩
              have h19 : ckN l[i] = 0 := by simpa using hc19
              rw [he, ckAt_step hi3, if_neg (by rw [h19]; simp), if_neg]
              rintro ⟨q1, q2⟩
              first
                | (have h22 : ¬ 0 < i := by simpa using hg23
                   exact h22 q1)
                | (have e5 : l.getD (i - 1) ⟨#[]⟩ = l[i - 1] := by simp [List.getD, show i - 1 < l.length by omega]
                   rw [e5] at q2
                   have h31 : bls l[i - 1] l[i] = true := by simpa [bls] using hc31
                   rw [h31] at q2; cases q2)
          · skip
            refine WL_gn (g := 23) rfl (by decide) rfl ?_
            refine WL_gn (g := 23) rfl (by decide) rfl ?_
            refine WL_gn (g := 23) rfl (by decide) rfl ?_
            refine WL_gn (g := 23) rfl (by decide) rfl ?_
            refine WL_gn (g := 23) rfl (by decide) rfl ?_
            refine WL_gn (g := 23) rfl (by decide) rfl ?_
            first | refine pkT rfl rfl ?_ | refine pkF rfl rfl ?_
            refine WL_nil ?_
            refine hK15 _ _ ?_
            refine CW_condF rfl rfl ?_
            refine CW_skip ?_
            refine hK9 _ _ ?_
            refine CW_region ?_
            first | refine addI rfl rfl (by omega) ?_ | refine addW rfl rfl ?_
            refine mvp (.int _ _) rfl ?_
            refine WL_nil ?_
            skip
            refine ⟨n - (i + 1), by omega, i + 1, rfl, by omega, rfl, rfl, rfl, rfl, ?_, hs⟩
            have h19 : ckN l[i] = 0 := by simpa using hc19
            rw [he, ckAt_step hi3, if_neg (by rw [h19]; simp), if_neg]
            rintro ⟨q1, q2⟩
            first
              | (have h22 : ¬ 0 < i := by simpa using hg23
                 exact h22 q1)
              | (have e5 : l.getD (i - 1) ⟨#[]⟩ = l[i - 1] := by simp [List.getD, show i - 1 < l.length by omega]
                 rw [e5] at q2
                 have h31 : bls l[i - 1] l[i] = true := by simpa [bls] using hc31
                 rw [h31] at q2; cases q2)
      · skip
        refine CW_exit ?_
        refine hK5 _ _ ?_
        refine CW_seq (fun K17 hK17 => ?_)
        refine CW_region ?_
        refine asp (.int _ _) rfl ?_
        refine WL_nil ?_
        refine hK17 _ _ ?_
        refine CW_ret ?_
        repeat (first | (with_reducible apply thenF_ret) | (with_reducible apply blockF_ret))
        try simp only [thenF, blockF, reduceIte]
        refine Post_r Tryz.results109 (.tmp rfl .nil) ?_
        try simp only [ev_tmp, ev_const, upd_ap, Nat.reduceLT, Nat.reduceEqDiff, reduceIte]
        refine ⟨?_, hs.fm⟩
        rw [he, ckAt_end (by simp at hc12; omega)]
def nsK (l : List ByteArray) (n : Nat) : List UInt8 := vnat l.length ++ (l.take n).flatMap fun h => encT h.data.toList
theorem nsK_all (l : List ByteArray) : nsK l l.length = nsEnc l := by unfold nsK nsEnc; rw [List.take_length]
theorem nsK_step {l : List ByteArray} {i : Nat} (h : i < l.length) : nsK l (i + 1) = nsK l i ++ encT l[i].data.toList := by
  unfold nsK
  rw [List.take_add_one, List.getElem?_eq_getElem h, List.flatMap_append, ← List.append_assoc]
  simp only [Option.toList_some, List.flatMap_cons, List.flatMap_nil, List.append_nil]
theorem nsK_len {l : List ByteArray} (h : ckNs l = 0) {i : Nat} (hi : i ≤ l.length) : (nsK l i).length ≤ 11000 := by
  have h1 := nsEnc_len h
  have h2 := (ckNs_0 h).1
  have h3 : (nsK l i).length ≤ (nsEnc l).length := by
    have e : (l.flatMap fun h => encT h.data.toList) = ((l.take i).flatMap fun h => encT h.data.toList) ++ ((l.drop i).flatMap fun h => encT h.data.toList) := by rw [← List.flatMap_append, List.take_append_drop]
    unfold nsK nsEnc
    rw [e]
    simp only [List.length_append]
    omega
  omega
theorem EncNames_ok (l : List ByteArray) (a : Option Addr) (n c : Nat) (w0 : World) (hr : Rd w0 a n 1 (sv l)) (hn : n = l.length) (hl : n ≤ 4611686018427387904) :
    Ret Tryz.prog 42 #[.slice a n c] w0 fun v w' => v = .tuple #[.string (if ckNs l = 0 then str (nsEnc l) else ⟨#[]⟩), .int .i64 (ckNs l)] ∧ Fm [] w0 w' := by
  have hs := St.init w0 []
  refine Ret_enter Tryz.func42 rfl Tryz.ntmps42 (by simp) ?_
  refine CW_seq (fun K1 hK1 => ?_)
  refine CW_region ?_
  refine asp (.string _) rfl ?_
  refine asp (.int _ _) rfl ?_
  refine WL_nil ?_
  refine hK1 _ _ ?_
  refine CW_seq (fun K2 hK2 => ?_)
  refine CW_seq (fun K3 hK3 => ?_)
  refine CW_region ?_
  refine mvp (.slice _ _ _) rfl ?_
  refine cll (ckNames_ok l a n c _ (hr.fm hs.fm) hn hl) ?_
  rintro _ w ⟨rfl, hf⟩
  replace hs := hs.call hf
  refine asp (.int _ _) rfl ?_
  refine WL_nil ?_
  refine hK3 _ _ ?_
  refine CW_seq (fun K4 hK4 => ?_)
  refine CW_region ?_
  refine mvp (.int _ _) rfl ?_
  refine neqW rfl rfl ?_
  refine WL_nil ?_
  refine hK4 _ _ ?_
  refine CW_cond rfl (fun hc13 => ?_) (fun hc13 => ?_)
  · skip
    refine CW_seq (fun K5 hK5 => ?_)
    refine CW_region ?_
    refine mvp (.int _ _) rfl ?_
    refine asp (.string _) rfl ?_
    refine asp (.int _ _) rfl ?_
    refine WL_nil ?_
    refine hK5 _ _ ?_
    refine CW_ret ?_
    repeat (first | (with_reducible apply thenF_ret) | (with_reducible apply blockF_ret))
    try simp only [thenF, blockF, reduceIte]
    refine Post_r Tryz.results42 (.tmp rfl (.tmp rfl .nil)) ?_
    try simp only [ev_tmp, ev_const, upd_ap, Nat.reduceLT, Nat.reduceEqDiff, reduceIte]
    have h13 : ckNs l ≠ 0 := by simpa using hc13
    rw [if_neg h13]
    exact ⟨by trivial, hs.fm⟩
  · have h13 : ckNs l = 0 := by simpa using hc13
    have h14 := ckNs_0 h13
    have hwl : ∀ i, i ≤ l.length → (nsK l i).length ≤ 11000 := fun i hi => nsK_len h13 hi
    refine CW_skip ?_
    refine hK2 _ _ ?_
    refine CW_seq (fun K6 hK6 => ?_)
    refine CW_region ?_
    refine cll (NewWriter_ok _) ?_
    rintro _ w ⟨p, rfl, hw, hp, hf⟩
    replace hs := hs.callNew hf (e := eWr p none [] 0) hw (by intro b hb; simp [eWr, ab] at hb; omega)
    refine asp (.pointer _) rfl ?_
    refine WL_nil ?_
    refine hK6 _ _ ?_
    refine CW_seq (fun K7 hK7 => ?_)
    refine CW_region ?_
    refine mvp (.pointer _) rfl ?_
    refine mvp (.slice _ _ _) rfl ?_
    refine lenW rfl ?_
    refine cll (WNumber_ok p none ([], 0) n _ (hs.he (eWr p none [] 0)) (by omega) (by simp)) ?_
    rintro _ w ⟨rfl, hp⟩
    rw [wN_0 _ _ (by omega)] at hp
    obtain ⟨a1, hs⟩ := hs.wrp (t := ([], 0)) hp
    have e0 : [] ++ vnat (n : Int).toNat = nsK l 0 := by simp [nsK, hn]
    rw [e0] at hs
    refine WL_nil ?_
    refine hK7 _ _ ?_
    refine CW_seq (fun K8 hK8 => ?_)
    refine CW_seq (fun K9 hK9 => ?_)
    refine CW_region ?_
    refine mvp (.slice _ _ _) rfl ?_
    refine lenW rfl ?_
    refine mvp (.int _ _) rfl ?_
    refine WL_nil ?_
    refine hK9 _ _ ?_
    refine CW_block ?_
    refine CW_loop (fun k f w' => ∃ (i : Nat) (a' : Option Addr), k = n - i ∧ i ≤ n ∧ f 5 = .pointer (some ⟨p, 0, none⟩) ∧ f 20 = .slice a n c ∧ f 21 = .int .i64 n ∧ f 22 = .int .i64 i ∧ St w0 [] w' [eWr p a' (nsK l i) 0]) n ?_ ?_
    · exact ⟨0, a1, by omega, by omega, rfl, rfl, rfl, rfl, hs⟩
    · rintro k f w1 ⟨i, a', rfl, hi, e5, e20, e21, e22, hs⟩
      refine CW_kn (i := 5) e5 (CW_kn (i := 20) e20 (CW_kn (i := 21) e21 (CW_kn (i := 22) e22 ?_)))
      refine CW_seq (fun K10 hK10 => ?_)
      refine CW_region ?_
      refine lssW rfl rfl ?_
      refine WL_nil ?_
      refine hK10 _ _ ?_
      refine CW_seq (fun K11 hK11 => ?_)
      refine CW_cond rfl (fun hc23 => ?_) (fun hc23 => ?_)
      · have hi2 : i < n := by simpa using hc23
        have hi3 : i < l.length := by omega
        obtain ⟨b, off, rfl, hcell⟩ := sv_at (hr.fm hs.fm) hi3
        have hsi := ckN_short (h14.2.1 i hi3)
        have hki := hwl i (by omega)
        have hsl : l[i].data.toList.length = l[i].size := by rw [Array.length_toList]; rfl
        refine CW_skip ?_
        refine hK11 _ _ ?_
        refine CW_seq (fun K12 hK12 => ?_)
        refine CW_block ?_
        refine CW_seq (fun K13 hK13 => ?_)
        refine CW_region ?_
        refine iad rfl rfl (by omega) ?_
        refine ldc (v := .string l[i]) rfl (by simpa using hcell i hi3) ?_
        refine asp (.string _) rfl ?_
        refine WL_nil ?_
        refine hK13 _ _ ?_
        refine CW_region ?_
        refine mvp (.pointer _) rfl ?_
        refine mvp (.string _) rfl ?_
        refine cll (WText_ok p a' (nsK l i, 0) l[i] _ (hs.he (eWr p a' (nsK l i) 0)) (by simp only; omega)) ?_
        rintro _ w ⟨rfl, hp⟩
        rw [wT_0 _ _ (by omega)] at hp
        obtain ⟨a4, hs⟩ := hs.wrp (t := (nsK l i, 0)) hp
        refine WL_nil ?_
        refine hK12 _ _ ?_
        refine CW_region ?_
        first | refine addI rfl rfl (by omega) ?_ | refine addW rfl rfl ?_
        refine mvp (.int _ _) rfl ?_
        refine WL_nil ?_
        skip
        refine ⟨n - (i + 1), by omega, i + 1, a4, rfl, by omega, rfl, rfl, rfl, rfl, ?_⟩
        rw [nsK_step hi3]
        exact hs
      · skip
        refine CW_exit ?_
        refine hK8 _ _ ?_
        refine CW_seq (fun K14 hK14 => ?_)
        refine CW_region ?_
        refine mvp (.pointer _) rfl ?_
        refine cll (WBytes_ok p a' (nsK l i, 0) _ (hs.he (eWr p a' (nsK l i) 0)) (by have := hwl i (by omega); simp only; omega)) ?_
        intro v w ⟨hv, hf⟩
        rw [if_neg (by simp)] at hv
        obtain ⟨gb, cb, rfl, hnew⟩ := hv
        replace hs := hs.callR hf hnew
        refine mvp (.tuple _) rfl ?_
        refine ext rfl rfl ?_
        refine ext rfl rfl ?_
        refine asp (.slice _ _ _) rfl ?_
        refine asp (.int _ _) rfl ?_
        refine WL_nil ?_
        refine hK14 _ _ ?_
        refine CW_seq (fun K15 hK15 => ?_)
        refine CW_region ?_
        refine mvp (.slice _ _ _) rfl ?_
        refine WL_v (X_cvStr rfl (hs.rd (a := gb)) rfl) ?_
        refine mvp (.int _ _) rfl ?_
        refine asp (.string _) rfl ?_
        refine asp (.int _ _) rfl ?_
        refine WL_nil ?_
        refine hK15 _ _ ?_
        refine CW_ret ?_
        repeat (first | (with_reducible apply thenF_ret) | (with_reducible apply blockF_ret))
        try simp only [thenF, blockF, reduceIte]
        refine Post_r Tryz.results42 (.tmp rfl (.tmp rfl .nil)) ?_
        try simp only [ev_tmp, ev_const, upd_ap, Nat.reduceLT, Nat.reduceEqDiff, reduceIte]
        have hi2 : i = l.length := by simp at hc23; omega
        rw [if_pos h13, h13]
        rw [hi2, nsK_all]
        exact ⟨by trivial, hs.fm⟩
theorem DecNames_ok (s : ByteArray) (w0 : World) (hsz : s.size ≤ 140737488355328) :
    Ret Tryz.prog 44 #[.string s] w0 fun v w' => (∃ a n c, v = .tuple #[.slice a n c, .int .i64 (dnR s.data.toList).2] ∧ n = (dnR s.data.toList).1.length ∧
      NewR w0 w' 9 1 n (.slice a n c) (sv (dnR s.data.toList).1)) ∧ Fm [] w0 w' := by
  have hs := St.init w0 []
  have ht : s.data.toList.length = s.size := by rw [Array.length_toList]; rfl
  obtain ⟨bs, hbs⟩ : ∃ bs, s.data.toList = bs := ⟨_, rfl⟩
  obtain ⟨s3, hs3⟩ : ∃ s3, rN 256 bs (0, 0) = s3 := ⟨_, rfl⟩
  have hcnt : s3.1 ≤ 256 := by rw [← hs3]; exact rN_le _ _ _
  have hrd : nsRd bs = ((rTs 32 bs s3.1 s3.2).1.map str, (rTs 32 bs s3.1 s3.2).2) := by
    unfold nsRd; rw [hs3]
  refine Ret_enter Tryz.func44 rfl Tryz.ntmps44 (by simp) ?_
  refine CW_seq (fun K1 hK1 => ?_)
  refine CW_region ?_
  refine asp (.slice _ _ _) rfl ?_
  refine asp (.int _ _) rfl ?_
  refine WL_nil ?_
  refine hK1 _ _ ?_
  refine CW_seq (fun K2 hK2 => ?_)
  refine CW_region ?_
  refine mvp (.string _) rfl ?_
  refine W_cvBytes hs rfl ?_
  intro w g7 cap7 zs7 k7 hs hg7 hf7 hcap7
  rw [hbs] at hs
  rw [hbs] at ht
  refine cll (NewReader_ok (some ⟨g7, 0, none⟩) s.size cap7 bs _ (rdB hs (by rw [List.length_append, bv_length]; omega) (by rw [subl_eq, List.drop_zero, List.take_append_of_le_length (by rw [bv_length]; omega), List.take_of_length_le (by rw [bv_length]; omega)])) ht.symm (by omega) (fun _ h => by cases h)) ?_
  rintro _ w ⟨r, g, rfl, hR, hr, hg, hf⟩
  replace hs := hs.callNew hf hR (by intro b hb; simp [eRd] at hb; omega)
  refine asp (.pointer _) rfl ?_
  refine WL_nil ?_
  refine hK2 _ _ ?_
  refine CW_seq (fun K3 hK3 => ?_)
  refine CW_region ?_
  refine asp (.slice _ _ _) rfl ?_
  refine WL_nil ?_
  refine hK3 _ _ ?_
  refine CW_seq (fun K4 hK4 => ?_)
  refine CW_seq (fun K5 hK5 => ?_)
  refine CW_region ?_
  refine mvp (.pointer _) rfl ?_
  refine cll (RNumber_ok r g 256 bs (0, 0) _ (hs.he (eRd r g bs (0, 0))) (by omega)) ?_
  rintro _ w ⟨rfl, hR, hf⟩
  replace hs := hs.rdr (0, 0) hR hf
  rw [hs3] at hs ⊢
  replace hs := hs.nilR 9 1
  refine mvp (.int _ _) rfl ?_
  refine WL_nil ?_
  refine hK5 _ _ ?_
  refine CW_block ?_
  refine CW_loop (fun k f w' => ∃ (i n c : Nat) (a : Option Addr), k = s3.1 - i ∧ i ≤ s3.1 ∧ n = i ∧ f 4 = .pointer (some ⟨r, 0, none⟩) ∧ f 5 = .slice a n c ∧ f 10 = .int .i64 s3.1 ∧ f 11 = .int .i64 i ∧ St w0 [] w' [eR (.slice a n c) 9 1 n (sv ((rTs 32 bs i s3.2).1.map str)), eRd r g bs (rTs 32 bs i s3.2).2]) s3.1 ?_ ?_
  · have hs' : St w0 [] _ [eR (.slice none 0 0) 9 1 0 [], eRd r g bs s3.2] := hs.wk
    exact ⟨0, 0, 0, none, by omega, by omega, rfl, rfl, rfl, rfl, rfl, hs'⟩
  · rintro k f w1 ⟨i, n, c, a, rfl, hi, hn, e4, e5, e10, e11, hs⟩
    refine CW_kn (i := 4) e4 (CW_kn (i := 5) e5 (CW_kn (i := 10) e10 (CW_kn (i := 11) e11 ?_)))
    refine CW_seq (fun K6 hK6 => ?_)
    refine CW_region ?_
    refine lssW rfl rfl ?_
    refine WL_nil ?_
    refine hK6 _ _ ?_
    refine CW_seq (fun K7 hK7 => ?_)
    refine CW_cond rfl (fun hc12 => ?_) (fun hc12 => ?_)
    · skip
      refine CW_skip ?_
      refine hK7 _ _ ?_
      refine CW_seq (fun K8 hK8 => ?_)
      refine CW_block ?_
      refine CW_region ?_
      refine mvp (.slice _ _ _) rfl ?_
      refine mvp (.pointer _) rfl ?_
      refine cll (RText_ok r g 32 bs (rTs 32 bs i s3.2).2 _ (hs.he (eRd r g bs (rTs 32 bs i s3.2).2)) (by omega)) ?_
      rintro _ w ⟨rfl, hR, hf⟩
      replace hs := hs.rdr (rTs 32 bs i s3.2).2 hR hf
      refine W_bslice hs (BS.ss rfl .nil) rfl (by simp) ?_
      intro w g16 hs hg16 hf16
      refine app1 hs rfl rfl (by rfl) (by rfl) (by decide) (by rfl) (by simp at hc12; omega) (by simp at hc12; omega) ?_
      intro a2 c2 w hs _
      refine asp (.slice _ _ _) rfl ?_
      refine WL_nil ?_
      refine hK8 _ _ ?_
      refine CW_region ?_
      first | refine addI rfl rfl (by omega) ?_ | refine addW rfl rfl ?_
      refine mvp (.int _ _) rfl ?_
      refine WL_nil ?_
      skip
      refine ⟨s3.1 - (i + 1), by simp at hc12; omega, i + 1, n + 1, c2, a2, rfl, by simp at hc12; omega, by omega, rfl, rfl, rfl, rfl, ?_⟩
      have e6 : sv ((rTs 32 bs (i + 1) s3.2).1.map str) = sv ((rTs 32 bs i s3.2).1.map str) ++ [.string (str (rT 32 bs (rTs 32 bs i s3.2).2).1)] := by simp [rTs, sv]
      rw [e6]
      have hs' : St w0 [] _ [eR (.slice a2 (n + 1) c2) 9 1 (n + 1) (sv ((rTs 32 bs i s3.2).1.map str) ++ [.string (str (rT 32 bs (rTs 32 bs i s3.2).2).1)]), eRd r g bs (rT 32 bs (rTs 32 bs i s3.2).2).2] := hs.wk
      exact hs'
    · have hi2 : i = s3.1 := by simp at hc12; omega
      subst hi2
      refine CW_exit ?_
      refine hK4 _ _ ?_
      refine CW_seq (fun K9 hK9 => ?_)
      refine CW_seq (fun K10 hK10 => ?_)
      refine CW_region ?_
      refine mvp (.pointer _) rfl ?_
      refine cll (RClose_ok r g bs (rTs 32 bs s3.1 s3.2).2 _ (hs.he (eRd r g bs (rTs 32 bs s3.1 s3.2).2))) ?_
      rintro _ w ⟨rfl, hf⟩
      replace hs := hs.call hf
      refine neqW rfl rfl ?_
      refine mvp (.bool _) rfl ?_
      refine WL_g (g := 22) rfl (by decide) rfl (fun hg22 => ?_) (fun hg22 => ?_)
      · skip
        refine mvp (.slice _ _ _) rfl ?_
        refine WL_gy (g := 22) rfl (by decide) rfl ?_
        refine cll (ckNames_ok ((rTs 32 bs s3.1 s3.2).1.map str) a n c _ (hs.rd (a := a)) (by simp [rTs_len, hn]) (by omega)) ?_
        rintro _ w ⟨rfl, hf⟩
        replace hs := hs.call hf
        refine WL_gy (g := 22) rfl (by decide) rfl ?_
        refine neqW rfl rfl ?_
        first | refine pkT rfl rfl ?_ | refine pkF rfl rfl ?_
        refine WL_nil ?_
        refine hK10 _ _ ?_
        refine CW_cond rfl (fun hc26 => ?_) (fun hc26 => ?_)
        · skip
          refine CW_seq (fun K11 hK11 => ?_)
          refine CW_region ?_
          refine asp (.slice _ _ _) rfl ?_
          refine asp (.int _ _) rfl ?_
          refine WL_nil ?_
          refine hK11 _ _ ?_
          refine CW_ret ?_
          repeat (first | (with_reducible apply thenF_ret) | (with_reducible apply blockF_ret))
          try simp only [thenF, blockF, reduceIte]
          refine Post_r Tryz.results44 (.tmp rfl (.tmp rfl .nil)) ?_
          try simp only [ev_tmp, ev_const, upd_ap, Nat.reduceLT, Nat.reduceEqDiff, reduceIte]
          have hd : dnR s.data.toList = ([], 3) := by
            unfold dnR nsDec
            rw [hbs, hrd, if_neg]
            rintro ⟨q1, q2⟩
            first
              | (have h29 : rClose bs (rTs 32 bs s3.1 s3.2).2 ≠ 0 := by simpa using hg22
                 exact h29 q1)
              | (have h33 : ckNs ((rTs 32 bs s3.1 s3.2).1.map str) ≠ 0 := by simpa using hc26
                 exact h33 q2)
          rw [hd]
          exact ⟨⟨none, 0, 0, rfl, rfl, World.ownsRow_nil _ _ _ _⟩, hs.fm⟩
        · skip
          refine CW_skip ?_
          refine hK9 _ _ ?_
          refine CW_seq (fun K12 hK12 => ?_)
          refine CW_region ?_
          refine mvp (.slice _ _ _) rfl ?_
          refine asp (.slice _ _ _) rfl ?_
          refine asp (.int _ _) rfl ?_
          refine WL_nil ?_
          refine hK12 _ _ ?_
          refine CW_ret ?_
          repeat (first | (with_reducible apply thenF_ret) | (with_reducible apply blockF_ret))
          try simp only [thenF, blockF, reduceIte]
          refine Post_r Tryz.results44 (.tmp rfl (.tmp rfl .nil)) ?_
          try simp only [ev_tmp, ev_const, upd_ap, Nat.reduceLT, Nat.reduceEqDiff, reduceIte]
          have hd : dnR s.data.toList = ((rTs 32 bs s3.1 s3.2).1.map str, 0) := by
            unfold dnR nsDec
            rw [hbs, hrd, if_pos]
            exact ⟨by simpa using hg22, by simpa using hc26⟩
          rw [hd]
          exact ⟨⟨a, n, c, rfl, by simp [rTs_len, hn], hs.newR⟩, hs.fm⟩
      · skip
        refine WL_gn (g := 22) rfl (by decide) rfl ?_
        refine WL_gn (g := 22) rfl (by decide) rfl ?_
        first | refine pkT rfl rfl ?_ | refine pkF rfl rfl ?_
        refine WL_nil ?_
        refine hK10 _ _ ?_
        refine CW_condT rfl rfl ?_
        refine CW_seq (fun K13 hK13 => ?_)
        refine CW_region ?_
        refine asp (.slice _ _ _) rfl ?_
        refine asp (.int _ _) rfl ?_
        refine WL_nil ?_
        refine hK13 _ _ ?_
        refine CW_ret ?_
        repeat (first | (with_reducible apply thenF_ret) | (with_reducible apply blockF_ret))
        try simp only [thenF, blockF, reduceIte]
        refine Post_r Tryz.results44 (.tmp rfl (.tmp rfl .nil)) ?_
        try simp only [ev_tmp, ev_const, upd_ap, Nat.reduceLT, Nat.reduceEqDiff, reduceIte]
        have hd : dnR s.data.toList = ([], 3) := by
          unfold dnR nsDec
          rw [hbs, hrd, if_neg]
          rintro ⟨q1, q2⟩
          first
            | (have h29 : rClose bs (rTs 32 bs s3.1 s3.2).2 ≠ 0 := by simpa using hg22
               exact h29 q1)
            | (have h33 : ckNs ((rTs 32 bs s3.1 s3.2).1.map str) ≠ 0 := by simpa using hc26
               exact h33 q2)
        rw [hd]
        exact ⟨⟨none, 0, 0, rfl, rfl, World.ownsRow_nil _ _ _ _⟩, hs.fm⟩
theorem EncBirth_ok (b : Bir) (w0 : World) (hb : b.maker.size ≤ 4611686018427387904) :
    Ret Tryz.prog 47 #[.agg (birV b).toArray] w0 fun v w' => v = .tuple #[.string (if birCheck b = 0 then str (birEnc b) else ⟨#[]⟩), .int .i64 (birCheck b)] ∧ Fm [] w0 w' := by
  have hs := St.init w0 []
  refine Ret_enter Tryz.func47 rfl Tryz.ntmps47 (by simp) ?_
  refine CW_seq (fun K1 hK1 => ?_)
  refine CW_region ?_
  refine bx (.agg (birV b).toArray) (vl := birV b) hs rfl rfl ?_
  intro w g1 hs hg1 hf1
  unfold birV at hs
  refine asp (.string _) rfl ?_
  refine asp (.int _ _) rfl ?_
  refine WL_nil ?_
  refine hK1 _ _ ?_
  refine CW_seq (fun K2 hK2 => ?_)
  refine CW_seq (fun K3 hK3 => ?_)
  refine CW_region ?_
  refine ldA hs rfl (by simp) ?_
  refine cll (BCheck_ok b _ hb) ?_
  rintro _ w ⟨rfl, hf⟩
  replace hs := hs.call hf
  refine asp (.int _ _) rfl ?_
  refine WL_nil ?_
  refine hK3 _ _ ?_
  refine CW_seq (fun K4 hK4 => ?_)
  refine CW_region ?_
  refine mvp (.int _ _) rfl ?_
  refine neqW rfl rfl ?_
  refine WL_nil ?_
  refine hK4 _ _ ?_
  refine CW_cond rfl (fun hc11 => ?_) (fun hc11 => ?_)
  · skip
    refine CW_seq (fun K5 hK5 => ?_)
    refine CW_region ?_
    refine mvp (.int _ _) rfl ?_
    refine asp (.string _) rfl ?_
    refine asp (.int _ _) rfl ?_
    refine WL_nil ?_
    refine hK5 _ _ ?_
    refine CW_ret ?_
    repeat (first | (with_reducible apply thenF_ret) | (with_reducible apply blockF_ret))
    try simp only [thenF, blockF, reduceIte]
    refine Post_r Tryz.results47 (.tmp rfl (.tmp rfl .nil)) ?_
    try simp only [ev_tmp, ev_const, upd_ap, Nat.reduceLT, Nat.reduceEqDiff, reduceIte]
    have h11 : birCheck b ≠ 0 := by simpa using hc11
    rw [if_neg h11]
    exact ⟨by trivial, hs.fm⟩
  · have h11 : birCheck b = 0 := by simpa using hc11
    obtain ⟨h12, h13, h14⟩ := birCheck_0 h11
    have h15 := lvalid_short h12
    have hsl : b.maker.data.toList.length = b.maker.size := by rw [Array.length_toList]; rfl
    refine CW_skip ?_
    refine hK2 _ _ ?_
    refine CW_seq (fun K6 hK6 => ?_)
    refine CW_region ?_
    refine cll (NewWriter_ok _) ?_
    rintro _ w ⟨p, rfl, hw, hp, hf⟩
    replace hs := hs.callNew hf (e := eWr p none [] 0) hw (by intro b hb; simp [eWr, ab] at hb; omega)
    refine asp (.pointer _) rfl ?_
    refine WL_nil ?_
    refine hK6 _ _ ?_
    refine CW_seq (fun K7 hK7 => ?_)
    refine CW_region ?_
    refine mvp (.pointer _) rfl ?_
    refine fad rfl ?_
    refine ld hs rfl rfl ?_
    refine cll (WText_ok p none ([], 0) b.maker _ (hs.he (eWr p none [] 0)) (by simp only [List.length_nil]; omega)) ?_
    rintro _ w ⟨rfl, hp⟩
    rw [wT_0 _ _ (by omega)] at hp
    obtain ⟨a1, hs⟩ := hs.wrp (t := ([], 0)) hp
    refine WL_nil ?_
    refine hK7 _ _ ?_
    refine CW_seq (fun K8 hK8 => ?_)
    refine CW_region ?_
    refine mvp (.pointer _) rfl ?_
    refine fad rfl ?_
    refine ld hs rfl rfl ?_
    refine cll (WNumber_ok p a1 ([] ++ encT b.maker.data.toList, 0) b.num _ (hs.he (eWr p a1 ([] ++ encT b.maker.data.toList) 0)) (by omega) (by have := vnat_le b.maker.data.toList.length; simp only [encT, List.nil_append, List.length_append]; omega)) ?_
    rintro _ w ⟨rfl, hp⟩
    rw [wN_0 _ _ h13] at hp
    obtain ⟨a2, hs⟩ := hs.wrp (t := ([] ++ encT b.maker.data.toList, 0)) hp
    have e0 : ([] ++ encT b.maker.data.toList) ++ vnat b.num.toNat = birEnc b := by simp [birEnc]
    rw [e0] at hs
    refine WL_nil ?_
    refine hK8 _ _ ?_
    refine CW_seq (fun K9 hK9 => ?_)
    refine CW_region ?_
    refine mvp (.pointer _) rfl ?_
    refine cll (WBytes_ok p a2 (birEnc b, 0) _ (hs.he (eWr p a2 (birEnc b) 0)) (by have := birEnc_len h11; simp only; omega)) ?_
    intro v w ⟨hv, hf⟩
    rw [if_neg (by simp)] at hv
    obtain ⟨gb, cb, rfl, hnew⟩ := hv
    replace hs := hs.callR hf hnew
    refine mvp (.tuple _) rfl ?_
    refine ext rfl rfl ?_
    refine ext rfl rfl ?_
    refine asp (.slice _ _ _) rfl ?_
    refine asp (.int _ _) rfl ?_
    refine WL_nil ?_
    refine hK9 _ _ ?_
    refine CW_seq (fun K10 hK10 => ?_)
    refine CW_region ?_
    refine mvp (.slice _ _ _) rfl ?_
    refine WL_v (X_cvStr rfl (hs.rd (a := gb)) rfl) ?_
    refine mvp (.int _ _) rfl ?_
    refine asp (.string _) rfl ?_
    refine asp (.int _ _) rfl ?_
    refine WL_nil ?_
    refine hK10 _ _ ?_
    refine CW_ret ?_
    repeat (first | (with_reducible apply thenF_ret) | (with_reducible apply blockF_ret))
    try simp only [thenF, blockF, reduceIte]
    refine Post_r Tryz.results47 (.tmp rfl (.tmp rfl .nil)) ?_
    try simp only [ev_tmp, ev_const, upd_ap, Nat.reduceLT, Nat.reduceEqDiff, reduceIte]
    rw [if_pos h11, h11]
    exact ⟨by trivial, hs.fm⟩
theorem DecBirth_ok (s : ByteArray) (w0 : World) (hsz : s.size ≤ 140737488355328) :
    Ret Tryz.prog 50 #[.string s] w0 fun v w' => v = .tuple #[.agg (birV (dbR s.data.toList).1).toArray, .int .i64 (dbR s.data.toList).2] ∧ Fm [] w0 w' := by
  have hs := St.init w0 []
  have ht : s.data.toList.length = s.size := by rw [Array.length_toList]; rfl
  obtain ⟨bs, hbs⟩ : ∃ bs, s.data.toList = bs := ⟨_, rfl⟩
  obtain ⟨s1, hs1⟩ : ∃ s1, rT 64 bs (0, 0) = s1 := ⟨_, rfl⟩
  obtain ⟨s2, hs2⟩ : ∃ s2, rN 1073741824 bs s1.2 = s2 := ⟨_, rfl⟩
  obtain ⟨B, hB⟩ : ∃ B : Bir, B = ⟨str s1.1, s2.1⟩ := ⟨_, rfl⟩
  have hrd : birRd bs = (B, s2.2) := by
    unfold birRd; rw [hs1, hs2, hB]
  have hBs : B.maker.size ≤ 4611686018427387904 := by
    have := rT_len 64 bs (0, 0)
    rw [hs1] at this
    rw [hB]; show (str s1.1).size ≤ _; rw [str_size]; omega
  refine Ret_enter Tryz.func50 rfl Tryz.ntmps50 (by simp) ?_
  refine CW_seq (fun K1 hK1 => ?_)
  refine CW_region ?_
  refine alc hs ?_
  intro w g2 hs hg2 hf2
  refine asp (.int _ _) rfl ?_
  refine WL_nil ?_
  refine hK1 _ _ ?_
  refine CW_seq (fun K2 hK2 => ?_)
  refine CW_region ?_
  refine mvp (.string _) rfl ?_
  refine W_cvBytes hs rfl ?_
  intro w g7 cap7 zs7 k7 hs hg7 hf7 hcap7
  rw [hbs] at hs
  rw [hbs] at ht
  refine cll (NewReader_ok (some ⟨g7, 0, none⟩) s.size cap7 bs _ (rdB hs (by rw [List.length_append, bv_length]; omega) (by rw [subl_eq, List.drop_zero, List.take_append_of_le_length (by rw [bv_length]; omega), List.take_of_length_le (by rw [bv_length]; omega)])) ht.symm (by omega) (fun _ h => by cases h)) ?_
  rintro _ w ⟨r, g, rfl, hR, hr, hg, hf⟩
  replace hs := hs.callNew hf hR (by intro b hb; simp [eRd] at hb; omega)
  refine asp (.pointer _) rfl ?_
  refine WL_nil ?_
  refine hK2 _ _ ?_
  refine CW_seq (fun K3 hK3 => ?_)
  refine CW_region ?_
  refine mvp (.pointer _) rfl ?_
  refine cll (RText_ok r g 64 bs (0, 0) _ (hs.he (eRd r g bs (0, 0))) (by omega)) ?_
  rintro _ w ⟨rfl, hR, hf⟩
  replace hs := hs.rdr (0, 0) hR hf
  rw [hs1] at hs ⊢
  refine mvp (.pointer _) rfl ?_
  refine cll (RNumber_ok r g 1073741824 bs s1.2 _ (hs.he (eRd r g bs s1.2)) (by omega)) ?_
  rintro _ w ⟨rfl, hR, hf⟩
  replace hs := hs.rdr s1.2 hR hf
  rw [hs2] at hs ⊢
  refine WL_v (v := .agg (birV B).toArray) (by rw [hB]; exact X_build rfl rfl) ?_
  refine alc hs ?_
  intro w g5 hs hg5 hf5
  refine sto (.agg (birV B).toArray) (vl := birV B) hs rfl rfl rfl rfl (by simp) rfl ?_
  intro w hs _
  replace hs : St w0 [] w (eB g5 true (Blk 44 (birV B)) :: _) := hs
  refine WL_nil ?_
  refine hK3 _ _ ?_
  refine CW_seq (fun K4 hK4 => ?_)
  refine CW_seq (fun K5 hK5 => ?_)
  refine CW_region ?_
  refine mvp (.pointer _) rfl ?_
  refine cll (RClose_ok r g bs s2.2 _ (hs.he (eRd r g bs s2.2))) ?_
  rintro _ w ⟨rfl, hf⟩
  replace hs := hs.call hf
  refine neqW rfl rfl ?_
  refine mvp (.bool _) rfl ?_
  refine WL_g (g := 17) rfl (by decide) rfl (fun hg17 => ?_) (fun hg17 => ?_)
  · skip
    refine ldA hs rfl (by simp) ?_
    refine WL_gy (g := 17) rfl (by decide) rfl ?_
    refine cll (BCheck_ok B _ hBs) ?_
    rintro _ w ⟨rfl, hf⟩
    replace hs := hs.call hf
    refine WL_gy (g := 17) rfl (by decide) rfl ?_
    refine neqW rfl rfl ?_
    first | refine pkT rfl rfl ?_ | refine pkF rfl rfl ?_
    refine WL_nil ?_
    refine hK5 _ _ ?_
    refine CW_cond rfl (fun hc21 => ?_) (fun hc21 => ?_)
    · skip
      refine CW_seq (fun K6 hK6 => ?_)
      refine CW_region ?_
      refine WL_v (v := .agg (birV ⟨⟨#[]⟩, 0⟩).toArray) (X_build rfl rfl) ?_
      refine sto (.agg (birV ⟨⟨#[]⟩, 0⟩).toArray) (vl := birV ⟨⟨#[]⟩, 0⟩) hs rfl rfl rfl rfl (by simp) rfl ?_
      intro w hs _
      replace hs : St w0 [] w (_ :: _ :: _ :: eB g2 true (Blk 44 (birV ⟨⟨#[]⟩, 0⟩)) :: _) := hs
      refine asp (.int _ _) rfl ?_
      refine WL_nil ?_
      refine hK6 _ _ ?_
      refine CW_ret ?_
      repeat (first | (with_reducible apply thenF_ret) | (with_reducible apply blockF_ret))
      try simp only [thenF, blockF, reduceIte]
      refine Post_r Tryz.results50 (.cell rfl (lvA hs (by simp)) (.tmp rfl .nil)) ?_
      try simp only [ev_tmp, ev_const, upd_ap, Nat.reduceLT, Nat.reduceEqDiff, reduceIte]
      have hd : dbR s.data.toList = (⟨⟨#[]⟩, 0⟩, 3) := by
        unfold dbR birDec
        rw [hbs, hrd, if_neg]
        rintro ⟨q1, q2⟩
        first
          | (have h29 : rClose bs s2.2 ≠ 0 := by simpa using hg17
             exact h29 q1)
          | (have h33 : birCheck B ≠ 0 := by simpa using hc21
             exact h33 q2)
      rw [hd]
      exact ⟨by trivial, hs.fm⟩
    · skip
      refine CW_skip ?_
      refine hK4 _ _ ?_
      refine CW_seq (fun K7 hK7 => ?_)
      refine CW_region ?_
      refine ldA hs rfl (by simp) ?_
      refine sto (.agg (birV B).toArray) (vl := birV B) hs rfl rfl rfl rfl (by simp) rfl ?_
      intro w hs _
      replace hs : St w0 [] w (_ :: _ :: _ :: eB g2 true (Blk 44 (birV B)) :: _) := hs
      refine asp (.int _ _) rfl ?_
      refine WL_nil ?_
      refine hK7 _ _ ?_
      refine CW_ret ?_
      repeat (first | (with_reducible apply thenF_ret) | (with_reducible apply blockF_ret))
      try simp only [thenF, blockF, reduceIte]
      refine Post_r Tryz.results50 (.cell rfl (lvA hs (by simp)) (.tmp rfl .nil)) ?_
      try simp only [ev_tmp, ev_const, upd_ap, Nat.reduceLT, Nat.reduceEqDiff, reduceIte]
      have hd : dbR s.data.toList = (B, 0) := by
        unfold dbR birDec
        rw [hbs, hrd, if_pos]
        exact ⟨by simpa using hg17, by simpa using hc21⟩
      rw [hd]
      exact ⟨by trivial, hs.fm⟩
  · skip
    refine WL_gn (g := 17) rfl (by decide) rfl ?_
    refine WL_gn (g := 17) rfl (by decide) rfl ?_
    first | refine pkT rfl rfl ?_ | refine pkF rfl rfl ?_
    refine WL_nil ?_
    refine hK5 _ _ ?_
    refine CW_condT rfl rfl ?_
    refine CW_seq (fun K8 hK8 => ?_)
    refine CW_region ?_
    refine WL_v (v := .agg (birV ⟨⟨#[]⟩, 0⟩).toArray) (X_build rfl rfl) ?_
    refine sto (.agg (birV ⟨⟨#[]⟩, 0⟩).toArray) (vl := birV ⟨⟨#[]⟩, 0⟩) hs rfl rfl rfl rfl (by simp) rfl ?_
    intro w hs _
    replace hs : St w0 [] w (_ :: _ :: _ :: eB g2 true (Blk 44 (birV ⟨⟨#[]⟩, 0⟩)) :: _) := hs
    refine asp (.int _ _) rfl ?_
    refine WL_nil ?_
    refine hK8 _ _ ?_
    refine CW_ret ?_
    repeat (first | (with_reducible apply thenF_ret) | (with_reducible apply blockF_ret))
    try simp only [thenF, blockF, reduceIte]
    refine Post_r Tryz.results50 (.cell rfl (lvA hs (by simp)) (.tmp rfl .nil)) ?_
    try simp only [ev_tmp, ev_const, upd_ap, Nat.reduceLT, Nat.reduceEqDiff, reduceIte]
    have hd : dbR s.data.toList = (⟨⟨#[]⟩, 0⟩, 3) := by
      unfold dbR birDec
      rw [hbs, hrd, if_neg]
      rintro ⟨q1, q2⟩
      first
        | (have h29 : rClose bs s2.2 ≠ 0 := by simpa using hg17
           exact h29 q1)
        | (have h33 : birCheck B ≠ 0 := by simpa using hc21
           exact h33 q2)
    rw [hd]
    exact ⟨by trivial, hs.fm⟩
end Go.Proofs.YtkbldndbofbkcaaGreatDoor
/- slices.Insert and slices.Delete at strings. -/
namespace Go.Proofs.YtkbldndbofbkcaaGreatDoor
open Go Go.RowKit
attribute [local irreducible] WL CW DW Ret RW
theorem ovl_WS {X : Cx} {N : Nat} {Q : Exit → Fr → World → Prop} {f : Fr} {w : World} {ops : Array Oper} {rest : List Oper} {d : Nat} {T : TypeId} {p : String} {aft : Array Edge} {Ts : Array TypeId} {x y : Operand} {g g' o o' la ca lb cb : Nat} {l l' : List Value} {T1 T2 : TypeId}
    (hx : ev N f x = .slice (some ⟨g, o, none⟩) la ca) (hy : ev N f y = .slice (some ⟨g', o', none⟩) lb cb) (h1 : w.heap[g]? = some (Blk T1 l)) (h2 : w.heap[g']? = some (Blk T2 l')) (hne : g ≠ g') (hl : l'.length ≠ 0)
    (K : WL X Tryz.prog N ops Q rest (upd f d (.bool false)) w) : WL X Tryz.prog N ops Q (⟨some d, .call ⟨.value (.func 158), #[x, y], Ts⟩, T, p, aft, none⟩ :: rest) f w := by
  refine WL_v (v := .bool false) (w' := w) ?_ K
  have h := run_ovl (P := Tryz.prog) (A := 66) (R := 4) (E := 9) (o := o) (o' := o') (la := la) (ca := ca) (lb := lb) (cb := cb) Tryz.func158 (by decide) rfl (by kernel_rfl) (by kernel_rfl) h1 h2 hne hl
  simp [Ex, execOp, resolve, Deferred.ofValue, ev_func, invoke, hx, hy, h]
theorem SInsert_ok (a : Option Addr) (n c gv : Nat) (l : List ByteArray) (who : ByteArray) (i : Nat) (w0 : World) (he : (eR (.slice a n c) 9 1 n (sv l)).holds w0) (hgv : w0.heap[gv]? = some (Blk 9 [.string who]))
    (hne : gv ∉ (eR (.slice a n c) 9 1 n (sv l)).fp) (hi : i ≤ n) (hn : n = l.length) (h32 : n ≤ 1000) :
    Ret Tryz.prog 101 #[.slice a n c, .int .i64 i, .slice (some ⟨gv, 0, none⟩) 1 1] w0 fun v w' => ∃ a' c', v = .slice a' (n + 1) c' ∧
      Turned (eR (.slice a n c) 9 1 n (sv l)) (eR (.slice a' (n + 1) c') 9 1 (n + 1) (sv (l.take i ++ who :: l.drop i))) w0 w' := by
  have hs := (St.ent he).put (e := eB gv false (Blk 9 [.string who])) hgv (fun x hx b hb hq => by simp at hx; subst hx; simp [eB] at hb; subst hb; exact hne hq) (by intro h; cases h)
  have hsv : sv (l.take i ++ who :: l.drop i) = (sv l).take i ++ .string who :: (sv l).drop i := by simp [sv, List.map_take, List.map_drop]
  have hxl : (sv l).length = n := by simp [hn]
  have hc63 : c ≤ 9223372036854775807 := by
    rcases he.2 with ⟨h, _⟩ | ⟨g', cp, cur, hv, _, _, _, hcm, _⟩
    · injection h with _ _ h; omega
    · injection hv with _ _ h; unfold maxLen at hcm; omega
  refine Ret_enter Tryz.func101 rfl Tryz.ntmps101 (by simp) ?_
  refine CW_seq (fun K1 hK1 => ?_)
  refine CW_region ?_
  refine asp (.slice _ _ _) rfl ?_
  refine WL_nil ?_
  refine hK1 _ _ ?_
  refine CW_seq (fun K2 hK2 => ?_)
  refine CW_region ?_
  refine mvp (.slice _ _ _) rfl ?_
  refine mvp (.int _ _) rfl ?_
  refine slAny (lo := i) rfl rfl hi ?_
  intro v12
  refine WL_nil ?_
  refine hK2 _ _ ?_
  refine CW_seq (fun K3 hK3 => ?_)
  refine CW_region ?_
  refine mvp (.slice _ _ _) rfl ?_
  refine lenW rfl ?_
  refine asp (.int _ _) rfl ?_
  refine WL_nil ?_
  refine hK3 _ _ ?_
  refine CW_seq (fun K4 hK4 => ?_)
  refine CW_seq (fun K5 hK5 => ?_)
  refine CW_region ?_
  refine mvp (.int _ _) rfl ?_
  refine eqlW rfl rfl ?_
  refine WL_nil ?_
  refine hK5 _ _ ?_
  refine CW_condF rfl (rfl) ?_
  refine CW_skip ?_
  refine hK4 _ _ ?_
  refine CW_seq (fun K6 hK6 => ?_)
  refine CW_region ?_
  refine mvp (.slice _ _ _) rfl ?_
  refine lenW rfl ?_
  refine asp (.int _ _) rfl ?_
  refine WL_nil ?_
  refine hK6 _ _ ?_
  refine CW_seq (fun K7 hK7 => ?_)
  refine CW_seq (fun K8 hK8 => ?_)
  refine CW_region ?_
  refine mvp (.int _ _) rfl ?_
  refine mvp (.int _ _) rfl ?_
  refine eqlW rfl rfl ?_
  refine WL_nil ?_
  refine hK8 _ _ ?_
  refine CW_cond rfl (fun hc22 => ?_) (fun hc22 => ?_)
  · skip
    refine CW_seq (fun K9 hK9 => ?_)
    refine CW_region ?_
    refine mvp (.slice _ _ _) rfl ?_
    refine mvp (.slice _ _ _) rfl ?_
    refine app1 hs rfl rfl (by rfl) (by rfl) (by decide) (by rfl) (by omega) (by omega) ?_
    intro a2 c2 w hs _
    refine asp (.slice _ _ _) rfl ?_
    refine WL_nil ?_
    refine hK9 _ _ ?_
    refine CW_ret ?_
    repeat (first | (with_reducible apply thenF_ret) | (with_reducible apply blockF_ret))
    try simp only [thenF, blockF, reduceIte]
    refine Post_r Tryz.results101 (.tmp rfl .nil) ?_
    try simp only [ev_tmp, ev_const, upd_ap, Nat.reduceLT, Nat.reduceEqDiff, reduceIte]
    have hin : i = n := by simp at hc22; omega
    have e1 : sv (l.take i ++ who :: l.drop i) = sv l ++ [.string who] := by
      rw [hsv, List.take_of_length_le (by omega), List.drop_eq_nil_of_le (by omega)]
    rw [e1]
    exact ⟨a2, c2, rfl, hs.ret1 rfl⟩
  · have hin : i < n := by simp at hc22; omega
    obtain ⟨g, L, rfl, hs, ht, hL, hnc⟩ := hs.openR (a := a) (by omega)
    simp only [Nat.mul_one] at ht hL
    have hgg : gv ≠ g := hs.ne (by simp [eB]) (by simp [eB])
    refine CW_skip ?_
    refine hK7 _ _ ?_
    refine CW_seq (fun K10 hK10 => ?_)
    refine CW_seq (fun K11 hK11 => ?_)
    refine CW_region ?_
    refine mvp (.int _ _) rfl ?_
    refine mvp (.int _ _) rfl ?_
    first | refine addI rfl rfl (by omega) ?_ | refine addW rfl rfl ?_
    refine mvp (.slice _ _ _) rfl ?_
    refine capW rfl ?_
    refine gtrW rfl rfl ?_
    refine WL_nil ?_
    refine hK11 _ _ ?_
    refine CW_cond rfl (fun hc31 => ?_) (fun hc31 => ?_)
    · skip
      refine CW_seq (fun K12 hK12 => ?_)
      refine CW_region ?_
      refine mvp (.slice _ _ _) rfl ?_
      refine mvp (.int _ _) rfl ?_
      refine WL_v (X_sh1 (hi := i) rfl rfl (by omega)) ?_
      refine mvp (.int _ _) rfl ?_
      refine mvp (.int _ _) rfl ?_
      first | refine addI rfl rfl (by omega) ?_ | refine addW rfl rfl ?_
      refine mvp (.int _ _) rfl ?_
      refine WL_v (v := .int .i64 ((n + 1 - i : Nat) : Int)) (X_subE rfl rfl (by rw [wrap_in (by omega) (by omega)]; omega)) ?_
      have hcc : c < n + 1 := by simp at hc31; omega
      refine W_appZ hs rfl rfl (rdB (ys := (sv l).take i) hs (by omega) (by rw [subl_eq, List.drop_zero, Nat.mul_one, ← ht, List.take_take, Nat.min_eq_left (by omega)])) (by omega) (by omega) (by omega) (by omega) ?_
      intro w g2 r hs hg2 hr63
      have e9 : i + (n + 1 - i) = n + 1 := by omega
      rw [e9]
      refine asp (.slice _ _ _) rfl ?_
      refine WL_nil ?_
      refine hK12 _ _ ?_
      refine CW_seq (fun K13 hK13 => ?_)
      refine CW_region ?_
      refine mvp (.slice _ _ _) rfl ?_
      refine mvp (.int _ _) rfl ?_
      refine WL_v (X_sl1 (lo := i) rfl rfl (by omega) (by omega)) ?_
      refine mvp (.slice _ _ _) rfl ?_
      refine W_copy hs rfl rfl (rdB (ys := [.string who]) hs (by simp) rfl) (by intro u hu; have := List.mem_of_mem_take hu; simp at this; subst this; rfl) (by simp; omega) ?_
      intro w hs _
      rw [show min 1 (n + 1 - i) = 1 by omega, Nat.zero_add] at hs
      replace hs : St w0 _ w (eB g2 true (Blk 9 (wrt ((sv l).take i ++ List.replicate (n + 1 - i + r) (.string ⟨#[]⟩)) i [.string who])) :: _) := hs
      refine WL_nil ?_
      refine hK13 _ _ ?_
      refine CW_seq (fun K14 hK14 => ?_)
      refine DW_sH hs 8 ?_
      intro w hs _
      refine DW_q hs 0 rfl (by kernel_rfl) (fun w' hw' => X_move (v := (.slice _ _ _)) rfl) ?_
      refine DW_q hs 1 rfl (by kernel_rfl) (fun w' hw' => X_move (v := (.int _ _)) rfl) ?_
      refine DW_q hs 2 rfl (by kernel_rfl) (fun w' hw' => X_move (v := (.int _ _)) rfl) ?_
      refine DW_q hs 3 rfl (by kernel_rfl) (fun w' hw' => X_addp rfl rfl (by omega) (by omega)) ?_
      refine DW_q hs 4 rfl (by kernel_rfl) (fun w' hw' => X_sl1 (lo := i + 1) rfl rfl (by omega) (by omega)) ?_
      refine DW_q hs 5 rfl (by kernel_rfl) (fun w' hw' => X_move (v := (.slice _ _ _)) rfl) ?_
      refine DW_q hs 6 rfl (by kernel_rfl) (fun w' hw' => X_move (v := (.int _ _)) rfl) ?_
      refine DW_q hs 7 rfl (by kernel_rfl) (fun w' hw' => X_sl1 (lo := i) rfl rfl (by omega) (by omega)) ?_
      refine DW_l 8 rfl (by kernel_rfl) ?_
      refine W_copy hs rfl rfl (rdB (ys := (sv l).drop i) hs (by omega) (by rw [subl_eq, Nat.zero_add, Nat.mul_one, ← ht, List.drop_take])) (fun u hu => sv_one l u (List.mem_of_mem_drop (List.mem_of_mem_take hu))) (by rw [wrt_length (by simp; omega)]; simp; omega) ?_
      intro w hs _
      have e10 : ((sv l).drop i).take (n - i) = (sv l).drop i := List.take_of_length_le (by rw [List.length_drop, hxl]; omega)
      rw [show min (n - i) (n + 1 - (i + 1)) = n - i by omega, Nat.zero_add, e10] at hs
      refine WL_nil ?_
      refine ⟨.inl rfl, ?_⟩
      refine DW_e (by kernel_rfl) ?_
      refine hK14 _ _ ?_
      refine CW_seq (fun K15 hK15 => ?_)
      refine CW_region ?_
      refine mvp (.slice _ _ _) rfl ?_
      refine asp (.slice _ _ _) rfl ?_
      refine WL_nil ?_
      refine hK15 _ _ ?_
      refine CW_ret ?_
      repeat (first | (with_reducible apply thenF_ret) | (with_reducible apply blockF_ret))
      try simp only [thenF, blockF, reduceIte]
      refine Post_r Tryz.results101 (.tmp rfl .nil) ?_
      try simp only [ev_tmp, ev_const, upd_ap, Nat.reduceLT, Nat.reduceEqDiff, reduceIte]
      have hs2 : St w0 _ w [eB g2 true (Blk 9 (wrt (wrt ((sv l).take i ++ List.replicate (n + 1 - i + r) (.string ⟨#[]⟩)) i [.string who]) (i + 1) ((sv l).drop i)))] := hs.sel
      have hlen : (wrt (wrt ((sv l).take i ++ List.replicate (n + 1 - i + r) (Value.string ⟨#[]⟩)) i [.string who]) (i + 1) ((sv l).drop i)).length = n + 1 + r := by
        rw [wrt_length (by rw [wrt_length (by simp; omega)]; simp; omega), wrt_length (by simp; omega)]
        rw [List.length_append, List.length_take, List.length_replicate]; omega
      have hs3 := hs2.toR (n := n + 1) (cap := n + 1 + r) (size := 1) .here (by rw [hlen, Nat.mul_one]) (by omega) (by omega)
      rw [Nat.mul_one, ins_grow _ _ i n _ hxl hin (by rw [List.length_replicate]; omega), ← hsv] at hs3
      exact ⟨_, _, rfl, hs3.ret1 rfl⟩
    · skip
      refine CW_skip ?_
      refine hK10 _ _ ?_
      refine CW_seq (fun K16 hK16 => ?_)
      refine CW_region ?_
      refine mvp (.slice _ _ _) rfl ?_
      refine mvp (.int _ _) rfl ?_
      refine mvp (.int _ _) rfl ?_
      first | refine addI rfl rfl (by omega) ?_ | refine addW rfl rfl ?_
      have hcc : n + 1 ≤ c := by simp at hc31; omega
      refine WL_v (X_sh1 (hi := n + 1) rfl rfl (by omega)) ?_
      refine asp (.slice _ _ _) rfl ?_
      refine WL_nil ?_
      refine hK16 _ _ ?_
      refine CW_seq (fun K17 hK17 => ?_)
      refine CW_seq (fun K18 hK18 => ?_)
      refine CW_region ?_
      refine mvp (.slice _ _ _) rfl ?_
      refine mvp (.slice _ _ _) rfl ?_
      refine mvp (.int _ _) rfl ?_
      refine mvp (.int _ _) rfl ?_
      first | refine addI rfl rfl (by omega) ?_ | refine addW rfl rfl ?_
      refine WL_v (X_sl1 (lo := i + 1) rfl rfl (by omega) (by omega)) ?_
      refine ovl_WS rfl rfl (hs.get (b := gv) InB.h) (hs.get (b := g) InB.h) hgg (by omega) ?_
      refine notW rfl ?_
      refine WL_nil ?_
      refine hK18 _ _ ?_
      refine CW_condT rfl (rfl) ?_
      refine CW_seq (fun K19 hK19 => ?_)
      refine DW_sH hs 8 ?_
      intro w hs _
      refine DW_q hs 0 rfl (by kernel_rfl) (fun w' hw' => X_move (v := (.slice _ _ _)) rfl) ?_
      refine DW_q hs 1 rfl (by kernel_rfl) (fun w' hw' => X_move (v := (.int _ _)) rfl) ?_
      refine DW_q hs 2 rfl (by kernel_rfl) (fun w' hw' => X_move (v := (.int _ _)) rfl) ?_
      refine DW_q hs 3 rfl (by kernel_rfl) (fun w' hw' => X_addp rfl rfl (by omega) (by omega)) ?_
      refine DW_q hs 4 rfl (by kernel_rfl) (fun w' hw' => X_sl1 (lo := i + 1) rfl rfl (by omega) (by omega)) ?_
      refine DW_q hs 5 rfl (by kernel_rfl) (fun w' hw' => X_move (v := (.slice _ _ _)) rfl) ?_
      refine DW_q hs 6 rfl (by kernel_rfl) (fun w' hw' => X_move (v := (.int _ _)) rfl) ?_
      refine DW_q hs 7 rfl (by kernel_rfl) (fun w' hw' => X_sl1 (lo := i) rfl rfl (by omega) (by omega)) ?_
      refine DW_l 8 rfl (by kernel_rfl) ?_
      refine W_copy hs rfl rfl (rdB (ys := (L.drop i).take (n + 1 - i)) hs (by omega) (by rw [subl_eq, Nat.zero_add, Nat.mul_one])) (by
        intro u hu
        rw [show min (n + 1 - i) (n + 1 - (i + 1)) = n - i by omega, List.take_take, Nat.min_eq_left (by omega)] at hu
        refine sv_one l u ?_
        rw [← ht]
        exact List.mem_of_mem_drop (i := i) (by rw [List.drop_take]; exact hu)) (by omega) ?_
      intro w hs _
      rw [show min (n + 1 - i) (n + 1 - (i + 1)) = n - i by omega, Nat.zero_add, List.take_take, Nat.min_eq_left (by omega)] at hs
      replace hs : St w0 _ w (_ :: eB g true (Blk 9 (wrt L (i + 1) ((L.drop i).take (n - i)))) :: _) := hs
      refine WL_nil ?_
      refine ⟨.inl rfl, ?_⟩
      refine DW_e (by kernel_rfl) ?_
      refine hK19 _ _ ?_
      refine CW_seq (fun K20 hK20 => ?_)
      refine CW_region ?_
      refine mvp (.slice _ _ _) rfl ?_
      refine mvp (.int _ _) rfl ?_
      refine WL_v (X_sl1 (lo := i) rfl rfl (by omega) (by omega)) ?_
      refine mvp (.slice _ _ _) rfl ?_
      refine W_copy hs rfl rfl (rdB (ys := [.string who]) hs (by simp) rfl) (by intro u hu; have := List.mem_of_mem_take hu; simp at this; subst this; rfl) (by rw [wrt_length (by simp; omega)]; simp; omega) ?_
      intro w hs _
      rw [show min 1 (n + 1 - i) = 1 by omega, Nat.zero_add, show ([Value.string who] : List Value).take 1 = [.string who] from rfl] at hs
      refine WL_nil ?_
      refine hK20 _ _ ?_
      refine CW_seq (fun K21 hK21 => ?_)
      refine CW_region ?_
      refine mvp (.slice _ _ _) rfl ?_
      refine asp (.slice _ _ _) rfl ?_
      refine WL_nil ?_
      refine hK21 _ _ ?_
      refine CW_ret ?_
      repeat (first | (with_reducible apply thenF_ret) | (with_reducible apply blockF_ret))
      try simp only [thenF, blockF, reduceIte]
      refine Post_r Tryz.results101 (.tmp rfl .nil) ?_
      try simp only [ev_tmp, ev_const, upd_ap, Nat.reduceLT, Nat.reduceEqDiff, reduceIte]
      have hs2 : St w0 _ w [eB g true (Blk 9 (wrt (wrt L (i + 1) ((L.drop i).take (n - i))) i [.string who]))] := hs.sel
      have hlen : (wrt (wrt L (i + 1) ((L.drop i).take (n - i))) i [.string who]).length = c := by
        rw [wrt_length (by rw [wrt_length (by simp; omega)]; simp; omega), wrt_length (by simp; omega)]
        exact hL
      have hs3 := hs2.toR (n := n + 1) (cap := c) (size := 1) .here (by rw [hlen]; omega) (by omega) (by omega)
      rw [Nat.mul_one, ins_shift _ i n _ hin (by omega), ht, ← hsv] at hs3
      exact ⟨_, _, rfl, hs3.ret1 rfl⟩
theorem SDelete_ok (a : Option Addr) (n c : Nat) (l : List ByteArray) (i : Nat) (w0 : World) (he : (eR (.slice a n c) 9 1 n (sv l)).holds w0) (hi : i < n) (hn : n = l.length) (h32 : n ≤ 1000) :
    Ret Tryz.prog 104 #[.slice a n c, .int .i64 i, .int .i64 (i + 1 : Nat)] w0 fun v w' => ∃ a' c', v = .slice a' (n - 1) c' ∧
      Turned (eR (.slice a n c) 9 1 n (sv l)) (eR (.slice a' (n - 1) c') 9 1 (n - 1) (sv (l.eraseIdx i))) w0 w' := by
  have hsv : sv (l.eraseIdx i) = (sv l).take i ++ (sv l).drop (i + 1) := by rw [List.eraseIdx_eq_take_drop_succ]; simp [sv, List.map_take, List.map_drop]
  have hxl : (sv l).length = n := by simp [hn]
  have hc63 : c ≤ 9223372036854775807 := by
    rcases he.2 with ⟨h, _⟩ | ⟨g', cp, cur, hv, _, _, _, hcm, _⟩
    · injection h with _ _ h; omega
    · injection hv with _ _ h; unfold maxLen at hcm; omega
  have hs := St.ent he
  obtain ⟨g, L, rfl, hs, ht, hL, hnc⟩ := hs.openR (a := a) (by omega)
  simp only [Nat.mul_one] at ht hL
  refine Ret_enter Tryz.func104 rfl Tryz.ntmps104 (by simp) ?_
  refine CW_seq (fun K1 hK1 => ?_)
  refine CW_region ?_
  refine asp (.slice _ _ _) rfl ?_
  refine WL_nil ?_
  refine hK1 _ _ ?_
  refine CW_seq (fun K2 hK2 => ?_)
  refine CW_region ?_
  refine mvp (.slice _ _ _) rfl ?_
  refine mvp (.int _ _) rfl ?_
  refine mvp (.int _ _) rfl ?_
  refine mvp (.slice _ _ _) rfl ?_
  refine lenW rfl ?_
  refine slAny3 (lo := i) (hi := i + 1) (mx := n) rfl rfl rfl rfl (by omega) (by omega) hnc ?_
  intro v13
  refine WL_nil ?_
  refine hK2 _ _ ?_
  refine CW_seq (fun K3 hK3 => ?_)
  refine CW_seq (fun K4 hK4 => ?_)
  refine CW_region ?_
  refine mvp (.int _ _) rfl ?_
  refine mvp (.int _ _) rfl ?_
  refine eqlW rfl rfl ?_
  refine WL_nil ?_
  refine hK4 _ _ ?_
  refine CW_condF rfl ((by simp; omega)) ?_
  refine CW_skip ?_
  refine hK3 _ _ ?_
  refine CW_seq (fun K5 hK5 => ?_)
  refine CW_region ?_
  refine mvp (.slice _ _ _) rfl ?_
  refine lenW rfl ?_
  refine asp (.int _ _) rfl ?_
  refine WL_nil ?_
  refine hK5 _ _ ?_
  refine CW_seq (fun K6 hK6 => ?_)
  refine DW_s hs 999 ([]) ?_
  intro w hs _
  refine DW_q hs 0 rfl (by kernel_rfl) (fun w' hw' => X_move (v := (.slice _ _ _)) rfl) ?_
  refine DW_q hs 1 rfl (by kernel_rfl) (fun w' hw' => X_move (v := (.int _ _)) rfl) ?_
  refine DW_q hs 2 rfl (by kernel_rfl) (fun w' hw' => X_sh1 (hi := i) rfl rfl (by omega)) ?_
  refine DW_q hs 3 rfl (by kernel_rfl) (fun w' hw' => X_move (v := (.slice _ _ _)) rfl) ?_
  refine DW_q hs 4 rfl (by kernel_rfl) (fun w' hw' => X_move (v := (.int _ _)) rfl) ?_
  refine DW_q hs 5 rfl (by kernel_rfl) (fun w' hw' => X_sl1' (lo := i + 1) rfl rfl (by omega)) ?_
  refine DW_l 6 rfl (by kernel_rfl) ?_
  have hrd : Rd w (some ⟨g, if c = i + 1 then 0 else 0 + (i + 1), none⟩) (n - (i + 1)) 1 ((sv l).drop (i + 1)) := by
    by_cases hc1 : c = i + 1
    · have h0 : (sv l).drop (i + 1) = [] := List.drop_eq_nil_of_le (by omega)
      rw [h0]
      exact ⟨by simp; omega, fun h => absurd rfl h⟩
    · rw [if_neg hc1, Nat.zero_add]
      exact rdB hs (by omega) (by rw [subl_eq, Nat.mul_one, ← ht, List.drop_take])
  refine W_appIn hs rfl rfl hrd (fun u hu => sv_one l u (List.mem_of_mem_drop hu)) (by omega) (by omega) ?_
  intro w hs _
  rw [show i + (n - (i + 1)) = n - 1 by omega, ← ht]
  rw [← ht] at hs
  refine WL_nil ?_
  refine ⟨.inr hs.hold, ?_⟩
  refine DW_q hs 7 rfl (by kernel_rfl) (fun w' hw' => X_assign (v := (.slice _ _ _)) rfl) ?_
  refine DW_e (by kernel_rfl) ?_
  refine hK6 _ _ ?_
  refine CW_seq (fun K7 hK7 => ?_)
  refine CW_region ?_
  refine mvp (.slice _ _ _) rfl ?_
  refine mvp (.slice _ _ _) rfl ?_
  refine lenW rfl ?_
  refine mvp (.int _ _) rfl ?_
  refine WL_v (X_slh1 (lo := n - 1) (hi := n) rfl rfl rfl (by omega) (by omega)) ?_
  have e31 : (if c = n - 1 then 0 else 0 + (n - 1)) = n - 1 := by rw [if_neg (by omega)]; omega
  rw [e31]
  have hw1 : (wrt L i ((L.take n).drop (i + 1))).length = c := by rw [wrt_length (by simp; omega)]; exact hL
  refine W_clear hs (by rfl) rfl (by omega) ?_
  intro w hs _
  rw [show n - (n - 1) = 1 by omega, show List.replicate 1 (Value.string ⟨#[]⟩) = [.string ⟨#[]⟩] from rfl] at hs
  refine WL_nil ?_
  refine hK7 _ _ ?_
  refine CW_seq (fun K8 hK8 => ?_)
  refine CW_region ?_
  refine mvp (.slice _ _ _) rfl ?_
  refine asp (.slice _ _ _) rfl ?_
  refine WL_nil ?_
  refine hK8 _ _ ?_
  refine CW_ret ?_
  repeat (first | (with_reducible apply thenF_ret) | (with_reducible apply blockF_ret))
  try simp only [thenF, blockF, reduceIte]
  refine Post_r Tryz.results104 (.tmp rfl .nil) ?_
  try simp only [ev_tmp, ev_const, upd_ap, Nat.reduceLT, Nat.reduceEqDiff, reduceIte]
  have hs2 : St w0 _ w [eB g true (Blk 9 (wrt (wrt L i ((L.take n).drop (i + 1))) (n - 1) [.string ⟨#[]⟩]))] := hs.sel
  have hlen : (wrt (wrt L i ((L.take n).drop (i + 1))) (n - 1) [Value.string ⟨#[]⟩]).length = c := by
    rw [wrt_length (by rw [hw1]; simp; omega)]; exact hw1
  have hs3 := hs2.toR (n := n - 1) (cap := c) (size := 1) .here (by rw [hlen, Nat.mul_one]) (by omega) (by omega)
  rw [Nat.mul_one, del_list L i n hi (by omega), ht, ← hsv] at hs3
  exact ⟨_, _, rfl, hs3.ret1 rfl⟩
end Go.Proofs.YtkbldndbofbkcaaGreatDoor
/- directory: what is read and pointed at in a view. -/
namespace Go.Proofs.YtkbldndbofbkcaaGreatDoor
open Go Go.RowKit
attribute [local irreducible] WL CW DW Ret RW
/-- The walk of a callee begins: the first piece may turn, the others are read. -/
theorem St.begin1 {W0 w : World} {M : List Nat} {e : Ent} {K : List Ent} (hs : St W0 M w (e :: K)) : St w e.fp w (e :: K.map roE) := by
  refine ⟨Fm.refl _ _, fun x hx => ?_, fun x hx ho b hb => ?_, ?_⟩
  · rcases List.mem_cons.1 hx with rfl | hx
    · exact hs.has _ (.head _)
    · obtain ⟨y, hy, rfl⟩ := List.mem_map.1 hx
      exact hs.has y (.tail _ hy)
  · rcases List.mem_cons.1 hx with rfl | hx
    · exact .inr hb
    · obtain ⟨y, hy, rfl⟩ := List.mem_map.1 hx
      cases ho
  · have h := List.pairwise_cons.1 hs.sep
    refine List.pairwise_cons.2 ⟨fun y hy => ?_, List.pairwise_map.2 h.2⟩
    obtain ⟨z, hz, rfl⟩ := List.mem_map.1 hy
    exact h.1 z hz
theorem St.pack2 {w0 w : World} {M : List Nat} {H : List Ent} {e1 e2 : Ent} (hs : St w0 M w (e1 :: e2 :: H)) (h1 : e1.own = true) (h2 : e2.own = true) : St w0 M w (eL [e1, e2] :: H) := by
  have q1 := List.pairwise_cons.1 hs.sep
  have q2 := List.pairwise_cons.1 q1.2
  refine ⟨hs.fm, fun x hx => ?_, fun x hx ho b hb => ?_, ?_⟩
  · rcases List.mem_cons.1 hx with rfl | hx
    · refine ⟨fun y hy => ?_, by simpa using q1.1 e2 (.head _)⟩
      simp at hy
      rcases hy with rfl | rfl
      · exact hs.has _ (.head _)
      · exact hs.has _ (.tail _ (.head _))
    · exact hs.has x (.tail _ (.tail _ hx))
  · rcases List.mem_cons.1 hx with rfl | hx
    · obtain ⟨y, hy, hb'⟩ := eL_mem.1 hb
      simp at hy
      rcases hy with rfl | rfl
      · exact hs.own _ (.head _) h1 b hb'
      · exact hs.own _ (.tail _ (.head _)) h2 b hb'
    · exact hs.own x (.tail _ (.tail _ hx)) ho b hb
  · refine List.pairwise_cons.2 ⟨fun y hy b hb => ?_, q2.2⟩
    obtain ⟨z, hz, hb'⟩ := eL_mem.1 hb
    simp at hz
    rcases hz with rfl | rfl
    · exact q1.1 y (.tail _ hy) b hb'
    · exact q2.1 y hy b hb'
theorem St.turn22 {w0 w w' : World} {M : List Nat} {H H1 H2 : List Ent} {e1 e2 f1 f2 : Ent} (hs : St w0 M w H) [k1 : RemE e1 H H1] [k2 : RemE e2 H1 H2] (ht : Turned (eL [e1, e2]) (eL [f1, f2]) w w') (h1 : e1.own = true) (h2 : e2.own = true) (h3 : f1.own = true) (h4 : f2.own = true) : St w0 M w' (f1 :: f2 :: H2) :=
  ((hs.perm (k1.h.trans (k2.h.cons e1))).pack2 h1 h2).turnL rfl ht (by intro x hx; simp at hx; rcases hx with rfl | rfl <;> assumption)
theorem St.unpackH {w0 w : World} {M : List Nat} {H K H' : List Ent} (hs : St w0 M w (eL H :: K)) (h' : H' = H ++ K) : St w0 M w H' := by
  subst h'
  obtain ⟨q1, q2⟩ := hs.has (eL H) (.head _)
  have hsep := List.pairwise_cons.1 hs.sep
  refine ⟨hs.fm, fun x hx => ?_, fun x hx hq b hb => ?_, List.pairwise_append.2 ⟨q2, hsep.2, fun x hx y hy b hb => hsep.1 y hy b (eL_mem.2 ⟨x, hx, hb⟩)⟩⟩
  · rcases List.mem_append.1 hx with hx | hx
    · exact q1 x hx
    · exact hs.has x (.tail _ hx)
  · rcases List.mem_append.1 hx with hx | hx
    · exact hs.own (eL H) (.head _) rfl b (eL_mem.2 ⟨x, hx, hb⟩)
    · exact hs.own x (.tail _ hx) hq b hb
/-! ### plain -/
abbrev lsN (b : Bir) : ONm := ⟨10, b.maker, b.num, 0, ⟨#[]⟩⟩
abbrev enN (b : Bir) (s : ByteArray) : ONm := ⟨9, b.maker, b.num, 0, s⟩
def dLs (t : Tr) (N : Chs) (b : Bir) : List ByteArray × Int := if (vwGet t N (lsN b)).2 = false then ([], 16) else dnR (vwGet t N (lsN b)).1.data.toList
def dTg (t : Tr) (N : Chs) (b : Bir) (s : ByteArray) : Bir × Int := if (vwGet t N (enN b s)).2 = false then (⟨⟨#[]⟩, 0⟩, 8) else dbR (vwGet t N (enN b s)).1.data.toList
def ptE (b : Bir) (s : ByteArray) (x : Bir) : Int := if birCheck x ≠ 0 then birCheck x else callE (enN b s) (str (birEnc x), false)
def ptN (N : Chs) (b : Bir) (s : ByteArray) (x : Bir) : Chs := if birCheck x ≠ 0 then N else callN N (enN b s) (str (birEnc x), false)
theorem dnR_len (bs : List UInt8) : (dnR bs).1.length ≤ 256 := by
  unfold dnR
  split
  · rename_i l hl
    exact (ckNs_0 (nsDec_iff.1 hl).1).1
  · exact Nat.zero_le _
theorem dLs_len (t : Tr) (N : Chs) (b : Bir) : (dLs t N b).1.length ≤ 256 := by
  unfold dLs; split
  · exact Nat.zero_le _
  · exact dnR_len _
theorem dlist_ok (g b r1 r2 : Nat) (t : Tr) (a : Option Addr) (m c : Nat) (R C N : Chs) (bi : Bir) (w0 : World) (hV : (eV g b r1 r2 t a m c R C N).holds w0) (ho : bi.maker.size ≤ 4611686018427387904)
    (hsz : (vwGet t N (lsN bi)).1.size ≤ 140737488355328) :
    Ret Tryz.prog 106 #[.pointer (some ⟨g, 0, none⟩), .agg (birV bi).toArray] w0 fun v w' => ∃ na nn nc, v = .tuple #[.slice na nn nc, .int .i64 (dLs t N bi).2] ∧ nn = (dLs t N bi).1.length ∧
      Turned (eV g b r1 r2 t a m c R C N) (eL [eV g b r1 r2 t a m c (vwRead t R N (lsN bi)) C N, eR (.slice na nn nc) 9 1 nn (sv (dLs t N bi).1)]) w0 w' := by
  have hs := St.ent hV
  refine Ret_enter Tryz.func106 rfl Tryz.ntmps106 (by simp) ?_
  refine CW_seq (fun K1 hK1 => ?_)
  refine CW_region ?_
  refine bx (.agg (birV bi).toArray) (vl := birV bi) hs rfl rfl ?_
  intro w g3 hs hg3 hf3
  refine asp (.slice _ _ _) rfl ?_
  refine asp (.int _ _) rfl ?_
  refine WL_nil ?_
  refine hK1 _ _ ?_
  refine CW_seq (fun K2 hK2 => ?_)
  refine CW_region ?_
  refine mvp (.pointer _) rfl ?_
  refine ldA hs rfl (by simp) ?_
  refine cll (OfListing_ok bi _ ho) ?_
  rintro _ w ⟨rfl, hf⟩
  replace hs := hs.call hf
  refine cll (VGet_ok g b r1 r2 t a m c R C N (lsN bi) _ (hs.he _) ho) ?_
  rintro _ w ⟨rfl, ht⟩
  replace hs := hs.turnE rfl ht
  refine mvp (.tuple _) rfl ?_
  refine ext rfl rfl ?_
  refine ext rfl rfl ?_
  refine asp (.string _) rfl ?_
  refine asp (.bool _) rfl ?_
  refine WL_nil ?_
  refine hK2 _ _ ?_
  refine CW_seq (fun K3 hK3 => ?_)
  refine CW_seq (fun K4 hK4 => ?_)
  refine CW_region ?_
  refine mvp (.bool _) rfl ?_
  refine notW rfl ?_
  refine WL_nil ?_
  refine hK4 _ _ ?_
  refine CW_cond rfl (fun hc16 => ?_) (fun hc16 => ?_)
  · skip
    refine CW_seq (fun K5 hK5 => ?_)
    refine CW_region ?_
    refine asp (.slice _ _ _) rfl ?_
    refine asp (.int _ _) rfl ?_
    refine WL_nil ?_
    refine hK5 _ _ ?_
    refine CW_ret ?_
    repeat (first | (with_reducible apply thenF_ret) | (with_reducible apply blockF_ret))
    try simp only [thenF, blockF, reduceIte]
    refine Post_r Tryz.results106 (.tmp rfl (.tmp rfl .nil)) ?_
    try simp only [ev_tmp, ev_const, upd_ap, Nat.reduceLT, Nat.reduceEqDiff, reduceIte]
    have h16 : (vwGet t N (lsN bi)).2 = false := by simpa using hc16
    have e1 : dLs t N bi = ([], 16) := by unfold dLs; rw [if_pos h16]
    rw [e1]
    exact ⟨none, 0, 0, rfl, rfl, hs.ret2n rfl _ _⟩
  · skip
    refine CW_skip ?_
    refine hK3 _ _ ?_
    refine CW_seq (fun K6 hK6 => ?_)
    refine CW_region ?_
    refine mvp (.string _) rfl ?_
    refine cll (DecNames_ok (vwGet t N (lsN bi)).1 _ hsz) ?_
    rintro _ w ⟨⟨na, nn, nc, rfl, hnn, hnew⟩, hf⟩
    replace hs := hs.callR hf hnew
    refine ext rfl rfl ?_
    refine ext rfl rfl ?_
    refine asp (.slice _ _ _) rfl ?_
    refine asp (.int _ _) rfl ?_
    refine WL_nil ?_
    refine hK6 _ _ ?_
    refine CW_ret ?_
    repeat (first | (with_reducible apply thenF_ret) | (with_reducible apply blockF_ret))
    try simp only [thenF, blockF, reduceIte]
    refine Post_r Tryz.results106 (.tmp rfl (.tmp rfl .nil)) ?_
    try simp only [ev_tmp, ev_const, upd_ap, Nat.reduceLT, Nat.reduceEqDiff, reduceIte]
    have h16 : ¬ (vwGet t N (lsN bi)).2 = false := by simpa using hc16
    have e1 : dLs t N bi = dnR (vwGet t N (lsN bi)).1.data.toList := by unfold dLs; rw [if_neg h16]
    rw [e1]
    exact ⟨na, nn, nc, rfl, hnn, hs.ret2 rfl rfl⟩
theorem target_ok (g b r1 r2 : Nat) (t : Tr) (a : Option Addr) (m c : Nat) (R C N : Chs) (bi : Bir) (s : ByteArray) (w0 : World) (hV : (eV g b r1 r2 t a m c R C N).holds w0) (ho : bi.maker.size ≤ 4611686018427387904)
    (hsz : (vwGet t N (enN bi s)).1.size ≤ 140737488355328) :
    Ret Tryz.prog 103 #[.pointer (some ⟨g, 0, none⟩), .agg (birV bi).toArray, .string s] w0 fun v w' => v = .tuple #[.agg (birV (dTg t N bi s).1).toArray, .int .i64 (dTg t N bi s).2] ∧
      Turned (eV g b r1 r2 t a m c R C N) (eV g b r1 r2 t a m c (vwRead t R N (enN bi s)) C N) w0 w' := by
  have hs := St.ent hV
  refine Ret_enter Tryz.func103 rfl Tryz.ntmps103 (by simp) ?_
  refine CW_seq (fun K1 hK1 => ?_)
  refine CW_region ?_
  refine bx (.agg (birV bi).toArray) (vl := birV bi) hs rfl rfl ?_
  intro w g4 hs hg4 hf4
  refine alc hs ?_
  intro w g6 hs hg6 hf6
  refine asp (.int _ _) rfl ?_
  refine WL_nil ?_
  refine hK1 _ _ ?_
  refine CW_seq (fun K2 hK2 => ?_)
  refine CW_region ?_
  refine mvp (.pointer _) rfl ?_
  refine ldA hs rfl (by simp) ?_
  refine mvp (.string _) rfl ?_
  refine cll (OfEntry_ok bi s _ ho) ?_
  rintro _ w ⟨rfl, hf⟩
  replace hs := hs.call hf
  refine cll (VGet_ok g b r1 r2 t a m c R C N (enN bi s) _ (hs.he _) ho) ?_
  rintro _ w ⟨rfl, ht⟩
  replace hs := hs.turnE rfl ht
  refine mvp (.tuple _) rfl ?_
  refine ext rfl rfl ?_
  refine ext rfl rfl ?_
  refine asp (.string _) rfl ?_
  refine asp (.bool _) rfl ?_
  refine WL_nil ?_
  refine hK2 _ _ ?_
  refine CW_seq (fun K3 hK3 => ?_)
  refine CW_seq (fun K4 hK4 => ?_)
  refine CW_region ?_
  refine mvp (.bool _) rfl ?_
  refine notW rfl ?_
  refine WL_nil ?_
  refine hK4 _ _ ?_
  refine CW_cond rfl (fun hc19 => ?_) (fun hc19 => ?_)
  · skip
    refine CW_seq (fun K5 hK5 => ?_)
    refine CW_region ?_
    refine WL_v (v := .agg (birV ⟨⟨#[]⟩, 0⟩).toArray) (X_build rfl rfl) ?_
    refine sto (.agg (birV ⟨⟨#[]⟩, 0⟩).toArray) (vl := birV ⟨⟨#[]⟩, 0⟩) hs rfl rfl rfl rfl (by simp) rfl ?_
    intro w hs _
    replace hs : St w0 _ w (eB g6 true (Blk 44 (birV ⟨⟨#[]⟩, 0⟩)) :: _) := hs
    refine asp (.int _ _) rfl ?_
    refine WL_nil ?_
    refine hK5 _ _ ?_
    refine CW_ret ?_
    repeat (first | (with_reducible apply thenF_ret) | (with_reducible apply blockF_ret))
    try simp only [thenF, blockF, reduceIte]
    refine Post_r Tryz.results103 (.cell rfl (lvA hs (by simp)) (.tmp rfl .nil)) ?_
    try simp only [ev_tmp, ev_const, upd_ap, Nat.reduceLT, Nat.reduceEqDiff, reduceIte]
    have h19 : (vwGet t N (enN bi s)).2 = false := by simpa using hc19
    have e1 : dTg t N bi s = (⟨⟨#[]⟩, 0⟩, 8) := by unfold dTg; rw [if_pos h19]
    rw [e1]
    exact ⟨by trivial, hs.ret1 rfl⟩
  · skip
    refine CW_skip ?_
    refine hK3 _ _ ?_
    refine CW_seq (fun K6 hK6 => ?_)
    refine CW_region ?_
    refine mvp (.string _) rfl ?_
    refine cll (DecBirth_ok (vwGet t N (enN bi s)).1 _ hsz) ?_
    rintro _ w ⟨rfl, hf⟩
    replace hs := hs.call hf
    refine ext rfl rfl ?_
    refine ext rfl rfl ?_
    refine sto (.agg (birV (dbR (vwGet t N (enN bi s)).1.data.toList).1).toArray) (vl := birV (dbR (vwGet t N (enN bi s)).1.data.toList).1) hs rfl rfl rfl rfl (by simp) rfl ?_
    intro w hs _
    replace hs : St w0 _ w (eB g6 true (Blk 44 (birV (dbR (vwGet t N (enN bi s)).1.data.toList).1)) :: _) := hs
    refine asp (.int _ _) rfl ?_
    refine WL_nil ?_
    refine hK6 _ _ ?_
    refine CW_ret ?_
    repeat (first | (with_reducible apply thenF_ret) | (with_reducible apply blockF_ret))
    try simp only [thenF, blockF, reduceIte]
    refine Post_r Tryz.results103 (.cell rfl (lvA hs (by simp)) (.tmp rfl .nil)) ?_
    try simp only [ev_tmp, ev_const, upd_ap, Nat.reduceLT, Nat.reduceEqDiff, reduceIte]
    have h19 : ¬ (vwGet t N (enN bi s)).2 = false := by simpa using hc19
    have e1 : dTg t N bi s = dbR (vwGet t N (enN bi s)).1.data.toList := by unfold dTg; rw [if_neg h19]
    rw [e1]
    exact ⟨by trivial, hs.ret1 rfl⟩
theorem point_ok (g b r1 r2 : Nat) (t : Tr) (a : Option Addr) (m c : Nat) (R C N : Chs) (bi : Bir) (s : ByteArray) (x : Bir) (w0 : World) (hV : (eV g b r1 r2 t a m c R C N).holds w0) (ho : bi.maker.size ≤ 4611686018427387904) (hx : x.maker.size ≤ 4611686018427387904) (hm : m ≤ 1000000) :
    Ret Tryz.prog 97 #[.pointer (some ⟨g, 0, none⟩), .agg (birV bi).toArray, .string s, .agg (birV x).toArray] w0 fun v w' => v = .int .i64 (ptE bi s x) ∧ ∃ a' m' c' C', m' ≤ m + 1 ∧
      Turned (eV g b r1 r2 t a m c R C N) (eV g b r1 r2 t a' m' c' R C' (ptN N bi s x)) w0 w' := by
  have hs := St.ent hV
  refine Ret_enter Tryz.func97 rfl Tryz.ntmps97 (by simp) ?_
  refine CW_seq (fun K1 hK1 => ?_)
  refine CW_region ?_
  refine bx (.agg (birV bi).toArray) (vl := birV bi) hs rfl rfl ?_
  intro w g5 hs hg5 hf5
  refine bx (.agg (birV x).toArray) (vl := birV x) hs rfl rfl ?_
  intro w g7 hs hg7 hf7
  refine asp (.int _ _) rfl ?_
  refine WL_nil ?_
  refine hK1 _ _ ?_
  refine CW_seq (fun K2 hK2 => ?_)
  refine CW_region ?_
  refine ldA hs rfl (by simp) ?_
  refine cll (EncBirth_ok x _ hx) ?_
  rintro _ w ⟨rfl, hf⟩
  replace hs := hs.call hf
  refine mvp (.tuple _) rfl ?_
  refine ext rfl rfl ?_
  refine ext rfl rfl ?_
  refine asp (.string _) rfl ?_
  refine asp (.int _ _) rfl ?_
  refine WL_nil ?_
  refine hK2 _ _ ?_
  refine CW_seq (fun K3 hK3 => ?_)
  refine CW_seq (fun K4 hK4 => ?_)
  refine CW_region ?_
  refine mvp (.int _ _) rfl ?_
  refine neqW rfl rfl ?_
  refine WL_nil ?_
  refine hK4 _ _ ?_
  refine CW_cond rfl (fun hc17 => ?_) (fun hc17 => ?_)
  · skip
    refine CW_seq (fun K5 hK5 => ?_)
    refine CW_region ?_
    refine mvp (.int _ _) rfl ?_
    refine asp (.int _ _) rfl ?_
    refine WL_nil ?_
    refine hK5 _ _ ?_
    refine CW_ret ?_
    repeat (first | (with_reducible apply thenF_ret) | (with_reducible apply blockF_ret))
    try simp only [thenF, blockF, reduceIte]
    refine Post_r Tryz.results97 (.tmp rfl .nil) ?_
    try simp only [ev_tmp, ev_const, upd_ap, Nat.reduceLT, Nat.reduceEqDiff, reduceIte]
    have h17 : birCheck x ≠ 0 := by simpa using hc17
    have e1 : ptE bi s x = birCheck x := by unfold ptE; rw [if_pos h17]
    have e2 : ptN N bi s x = N := by unfold ptN; rw [if_pos h17]
    rw [e1, e2]
    exact ⟨by trivial, a, m, c, C, by omega, hs.ret1 rfl⟩
  · have h17 : birCheck x = 0 := by simpa using hc17
    rw [if_pos h17]
    refine CW_skip ?_
    refine hK3 _ _ ?_
    refine CW_seq (fun K6 hK6 => ?_)
    refine CW_region ?_
    refine mvp (.pointer _) rfl ?_
    refine ldA hs rfl (by simp) ?_
    refine mvp (.string _) rfl ?_
    refine cll (OfEntry_ok bi s _ ho) ?_
    rintro _ w ⟨rfl, hf⟩
    replace hs := hs.call hf
    refine mvp (.string _) rfl ?_
    refine cll (VSet_ok g b r1 r2 t a m c R C N (enN bi s) (str (birEnc x)) _ (hs.he _) ho hm) ?_
    rintro _ w ⟨rfl, a', m', c', C', hm', ht⟩
    replace hs := hs.turnE rfl ht
    refine asp (.int _ _) rfl ?_
    refine WL_nil ?_
    refine hK6 _ _ ?_
    refine CW_ret ?_
    repeat (first | (with_reducible apply thenF_ret) | (with_reducible apply blockF_ret))
    try simp only [thenF, blockF, reduceIte]
    refine Post_r Tryz.results97 (.tmp rfl .nil) ?_
    try simp only [ev_tmp, ev_const, upd_ap, Nat.reduceLT, Nat.reduceEqDiff, reduceIte]
    have e1 : ptE bi s x = callE (enN bi s) (str (birEnc x), false) := by unfold ptE; rw [if_neg (by rw [h17]; simp)]
    have e2 : ptN N bi s x = callN N (enN bi s) (str (birEnc x), false) := by unfold ptN; rw [if_neg (by rw [h17]; simp)]
    rw [e1, e2]
    exact ⟨by trivial, a', m', c', C', hm', hs.ret1 rfl⟩
/-! ### a name is inserted -/
def insF (t : Tr) (N : Chs) (b : Bir) (s : ByteArray) (l : List ByteArray) : List ByteArray × Int :=
  if (vwGet t N (enN b s)).2 = true then ([], 13) else if sbFound l s = true then (l, 0) else if 256 ≤ l.length then ([], 9) else (l.take (sbAt l s) ++ s :: l.drop (sbAt l s), 0)
theorem insF_ok (g b r1 r2 : Nat) (t : Tr) (a : Option Addr) (m c : Nat) (R C N : Chs) (bi : Bir) (s : ByteArray) (gs gv gd : Nat) (qs qv qd : Bool) (na : Option Addr) (nn nc : Nat) (l : List ByteArray) {W0 : World} {M : List Nat} (w0 : World)
    (h0 : St W0 M w0 [eL [eV g b r1 r2 t a m c R C N, eR (.slice na nn nc) 9 1 nn (sv l)], eB gs qs (Blk 9 [.string s]), eB gv qv (Blk 36 [.pointer (some ⟨g, 0, none⟩)]), eB gd qd (Blk 44 (birV bi))])
    (ho : bi.maker.size ≤ 4611686018427387904) (hn : nn = l.length) (hl : nn ≤ 256) :
    Ret Tryz.prog 99 #[.slice na nn nc, .pointer (some ⟨gs, 0, none⟩), .pointer (some ⟨gv, 0, none⟩), .pointer (some ⟨gd, 0, none⟩)] w0 fun v w' => ∃ na' nn' nc', v = .tuple #[.slice na' nn' nc', .int .i64 (insF t N bi s l).2] ∧ nn' = (insF t N bi s l).1.length ∧
      Turned (eL [eV g b r1 r2 t a m c R C N, eR (.slice na nn nc) 9 1 nn (sv l)]) (eL [eV g b r1 r2 t a m c (vwRead t R N (enN bi s)) C N, eR (.slice na' nn' nc') 9 1 nn' (sv (insF t N bi s l).1)]) w0 w' := by
  have hs1 := h0.begin1
  have hs : St w0 (eL [eV g b r1 r2 t a m c R C N, eR (.slice na nn nc) 9 1 nn (sv l)]).fp w0 [eV g b r1 r2 t a m c R C N, eR (.slice na nn nc) 9 1 nn (sv l), eB gs false (Blk 9 [.string s]), eB gv false (Blk 36 [.pointer (some ⟨g, 0, none⟩)]), eB gd false (Blk 44 (birV bi))] := hs1.unpackH rfl
  have hat := sbAt_le l s
  refine Ret_enter Tryz.func99 rfl Tryz.ntmps99 (by simp) ?_
  refine CW_seq (fun K1 hK1 => ?_)
  refine CW_region ?_
  refine asp (.slice _ _ _) rfl ?_
  refine asp (.int _ _) rfl ?_
  refine WL_nil ?_
  refine hK1 _ _ ?_
  refine CW_seq (fun K2 hK2 => ?_)
  refine CW_region ?_
  refine mvp (.slice _ _ _) rfl ?_
  refine ld hs rfl rfl ?_
  refine cll (BSS_ok na nn nc l s _ (hs.rd (a := na)) hn (by omega)) ?_
  rintro _ w ⟨rfl, hf⟩
  replace hs := hs.call hf
  refine mvp (.tuple _) rfl ?_
  refine ext rfl rfl ?_
  refine ext rfl rfl ?_
  refine asp (.int _ _) rfl ?_
  refine asp (.bool _) rfl ?_
  refine WL_nil ?_
  refine hK2 _ _ ?_
  refine CW_seq (fun K3 hK3 => ?_)
  refine CW_block ?_
  refine CW_seq (fun K4 hK4 => ?_)
  refine DW_s hs 4 ([eB gs false (Blk 9 [.string s]), eB gv false (Blk 36 [.pointer (some ⟨g, 0, none⟩)]), eB gd false (Blk 44 (birV bi))]) ?_
  intro w hs _
  refine DW_q hs 0 rfl (by kernel_rfl) (fun w' hw' => X_ldH hw' rfl rfl) ?_
  refine DW_q hs 1 rfl (by kernel_rfl) (fun w' hw' => X_ldAH hw' rfl (by simp)) ?_
  refine DW_q hs 2 rfl (by kernel_rfl) (fun w' hw' => X_ldH hw' rfl rfl) ?_
  refine DW_l 3 rfl (by kernel_rfl) ?_
  refine cll (OfEntry_ok bi s _ ho) ?_
  rintro _ w ⟨rfl, hf⟩
  replace hs := hs.call hf
  refine WL_nil ?_
  refine ⟨.inr hs.hold, ?_⟩
  refine DW_l 4 rfl (by kernel_rfl) ?_
  refine cll (VHas_ok g b r1 r2 t a m c R C N (enN bi s) _ (hs.he _) ho) ?_
  rintro _ w ⟨rfl, ht⟩
  replace hs := hs.turnE rfl ht
  refine WL_nil ?_
  refine ⟨.inl rfl, ?_⟩
  refine DW_l 5 rfl (by kernel_rfl) ?_
  refine asp (.bool _) rfl ?_
  refine WL_nil ?_
  refine ⟨.inr hs.hold, ?_⟩
  refine DW_e (by kernel_rfl) ?_
  refine hK4 _ _ ?_
  refine CW_cond rfl (fun hc15 => ?_) (fun hc15 => ?_)
  · skip
    refine CW_seq (fun K5 hK5 => ?_)
    refine CW_region ?_
    refine asp (.slice _ _ _) rfl ?_
    refine asp (.int _ _) rfl ?_
    refine WL_nil ?_
    refine hK5 _ _ ?_
    refine CW_ret ?_
    repeat (first | (with_reducible apply thenF_ret) | (with_reducible apply blockF_ret))
    try simp only [thenF, blockF, reduceIte]
    refine Post_r Tryz.results99 (.tmp rfl (.tmp rfl .nil)) ?_
    try simp only [ev_tmp, ev_const, upd_ap, Nat.reduceLT, Nat.reduceEqDiff, reduceIte]
    have e1 : insF t N bi s l = ([], 13) := by unfold insF; rw [if_pos (by simpa using hc15)]
    rw [e1]
    exact ⟨none, 0, 0, rfl, rfl, hs.ret2n rfl _ _⟩
  · skip
    refine CW_seq (fun K6 hK6 => ?_)
    refine CW_region ?_
    refine mvp (.bool _) rfl ?_
    refine asp (.bool _) rfl ?_
    refine WL_nil ?_
    refine hK6 _ _ ?_
    refine CW_cond rfl (fun hc21 => ?_) (fun hc21 => ?_)
    · skip
      refine CW_seq (fun K7 hK7 => ?_)
      refine CW_region ?_
      refine mvp (.slice _ _ _) rfl ?_
      refine asp (.slice _ _ _) rfl ?_
      refine asp (.int _ _) rfl ?_
      refine WL_nil ?_
      refine hK7 _ _ ?_
      refine CW_ret ?_
      repeat (first | (with_reducible apply thenF_ret) | (with_reducible apply blockF_ret))
      try simp only [thenF, blockF, reduceIte]
      refine Post_r Tryz.results99 (.tmp rfl (.tmp rfl .nil)) ?_
      try simp only [ev_tmp, ev_const, upd_ap, Nat.reduceLT, Nat.reduceEqDiff, reduceIte]
      have e1 : insF t N bi s l = (l, 0) := by unfold insF; rw [if_neg (by simpa using hc15), if_pos (by simpa using hc21)]
      rw [e1]
      exact ⟨na, nn, nc, rfl, hn, hs.ret2 rfl rfl⟩
    · skip
      refine CW_seq (fun K8 hK8 => ?_)
      refine CW_region ?_
      refine mvp (.slice _ _ _) rfl ?_
      refine lenW rfl ?_
      refine geqW rfl rfl ?_
      refine asp (.bool _) rfl ?_
      refine WL_nil ?_
      refine hK8 _ _ ?_
      refine CW_cond rfl (fun hc24 => ?_) (fun hc24 => ?_)
      · skip
        refine CW_seq (fun K9 hK9 => ?_)
        refine CW_region ?_
        refine asp (.slice _ _ _) rfl ?_
        refine asp (.int _ _) rfl ?_
        refine WL_nil ?_
        refine hK9 _ _ ?_
        refine CW_ret ?_
        repeat (first | (with_reducible apply thenF_ret) | (with_reducible apply blockF_ret))
        try simp only [thenF, blockF, reduceIte]
        refine Post_r Tryz.results99 (.tmp rfl (.tmp rfl .nil)) ?_
        try simp only [ev_tmp, ev_const, upd_ap, Nat.reduceLT, Nat.reduceEqDiff, reduceIte]
        have e1 : insF t N bi s l = ([], 9) := by unfold insF; rw [if_neg (by simpa using hc15), if_neg (by simpa using hc21), if_pos (by simp at hc24; omega)]
        rw [e1]
        exact ⟨none, 0, 0, rfl, rfl, hs.ret2n rfl _ _⟩
      · skip
        refine CW_skip ?_
        refine hK3 _ _ ?_
        refine CW_seq (fun K10 hK10 => ?_)
        refine CW_region ?_
        refine mvp (.slice _ _ _) rfl ?_
        refine mvp (.int _ _) rfl ?_
        refine ld hs rfl rfl ?_
        refine W_bslice hs (BS.ss rfl .nil) rfl (by simp) ?_
        intro w g31 hs hg31 hf31
        refine cll (SInsert_ok na nn nc g31 l s (sbAt l s) _ (hs.he _) (hs.get InB.h) (fun q => (List.pairwise_cons.1 hs.sep).1 (eR (.slice na nn nc) 9 1 nn (sv l)) InE.h g31 (by simp [eB]) q) (by omega) hn (by omega)) ?_
        rintro _ w ⟨a2, c2, rfl, ht⟩
        replace hs := hs.turnE rfl ht
        refine asp (.slice _ _ _) rfl ?_
        refine asp (.int _ _) rfl ?_
        refine WL_nil ?_
        refine hK10 _ _ ?_
        refine CW_ret ?_
        repeat (first | (with_reducible apply thenF_ret) | (with_reducible apply blockF_ret))
        try simp only [thenF, blockF, reduceIte]
        refine Post_r Tryz.results99 (.tmp rfl (.tmp rfl .nil)) ?_
        try simp only [ev_tmp, ev_const, upd_ap, Nat.reduceLT, Nat.reduceEqDiff, reduceIte]
        have e1 : insF t N bi s l = (l.take (sbAt l s) ++ s :: l.drop (sbAt l s), 0) := by unfold insF; rw [if_neg (by simpa using hc15), if_neg (by simpa using hc21), if_neg (by simp at hc24; omega)]
        rw [e1]
        exact ⟨a2, nn + 1, c2, rfl, by simp; omega, hs.ret2 rfl rfl⟩
end Go.Proofs.YtkbldndbofbkcaaGreatDoor
/- directory: names are changed. -/
namespace Go.Proofs.YtkbldndbofbkcaaGreatDoor
open Go Go.RowKit
attribute [local irreducible] WL CW DW Ret RW
theorem St.packH {w0 w : World} {M : List Nat} {H K : List Ent} (hs : St w0 M w (H ++ K)) (ho : ∀ e ∈ H, e.own = true) : St w0 M w (eL H :: K) := by
  obtain ⟨p1, p2, p3⟩ := List.pairwise_append.1 hs.sep
  refine ⟨hs.fm, fun x hx => ?_, fun x hx hq b hb => ?_, List.pairwise_cons.2 ⟨fun y hy b hb => ?_, p2⟩⟩
  · rcases List.mem_cons.1 hx with rfl | hx
    · exact ⟨fun y hy => hs.has y (List.mem_append_left _ hy), p1⟩
    · exact hs.has x (List.mem_append_right _ hx)
  · rcases List.mem_cons.1 hx with rfl | hx
    · obtain ⟨y, hy, hb'⟩ := eL_mem.1 hb
      exact hs.own y (List.mem_append_left _ hy) (ho y hy) b hb'
    · exact hs.own x (List.mem_append_right _ hx) hq b hb
  · obtain ⟨z, hz, hb'⟩ := eL_mem.1 hb
    exact p3 z hz y hy b hb'
theorem St.turn33 {w0 w w' : World} {M : List Nat} {H H1 H2 H3 : List Ent} {e1 e2 e3 f1 f2 f3 : Ent} (hs : St w0 M w H) [k1 : RemE e1 H H1] [k2 : RemE e2 H1 H2] [k3 : RemE e3 H2 H3] (ht : Turned (eL [e1, e2, e3]) (eL [f1, f2, f3]) w w') (h1 : e1.own = true) (h2 : e2.own = true) (h3 : e3.own = true) (j1 : f1.own = true) (j2 : f2.own = true) (j3 : f3.own = true) :
    St w0 M w' (f1 :: f2 :: f3 :: H3) := by
  have h := hs.perm (k1.h.trans ((k2.h.trans (k3.h.cons e2)).cons e1))
  exact (St.packH (H := [e1, e2, e3]) (K := H3) h (by intro x hx; simp at hx; rcases hx with rfl | rfl | rfl <;> assumption)).turnL (K := [f1, f2, f3]) rfl ht (by intro x hx; simp at hx; rcases hx with rfl | rfl | rfl <;> assumption)
theorem St.ret3 {w0 w : World} {e e1 e2 e3 : Ent} {H : List Ent} (hs : St w0 e.fp w H) [k : SelL [e1, e2, e3] H] (h1 : e1.own = true) (h2 : e2.own = true) (h3 : e3.own = true) : Turned e (eL [e1, e2, e3]) w0 w :=
  ((hs.sel (H' := [e1, e2, e3])).pack (by intro x hx; simp at hx; rcases hx with rfl | rfl | rfl <;> assumption)).turned _ rfl
def remF (t : Tr) (N : Chs) (b : Bir) (s : ByteArray) (l : List ByteArray) : List ByteArray × Int := (if sbFound l s = true then l.eraseIdx (sbAt l s) else l, (dTg t N b s).2)
theorem remF_ok (g b r1 r2 : Nat) (t : Tr) (a : Option Addr) (m c : Nat) (R C N : Chs) (bi : Bir) (s : ByteArray) (gs gv gd gw : Nat) (qs qv qd : Bool) (na : Option Addr) (nn nc : Nat) (l : List ByteArray) (x : Bir) {W0 : World} {M : List Nat} (w0 : World)
    (h0 : St W0 M w0 [eL [eV g b r1 r2 t a m c R C N, eR (.slice na nn nc) 9 1 nn (sv l), eB gw true (Blk 44 (birV x))], eB gs qs (Blk 9 [.string s]), eB gv qv (Blk 36 [.pointer (some ⟨g, 0, none⟩)]), eB gd qd (Blk 44 (birV bi))])
    (ho : bi.maker.size ≤ 4611686018427387904) (hsz : (vwGet t N (enN bi s)).1.size ≤ 140737488355328) (hn : nn = l.length) (hl : nn ≤ 256) :
    Ret Tryz.prog 102 #[.slice na nn nc, .pointer (some ⟨gv, 0, none⟩), .pointer (some ⟨gd, 0, none⟩), .pointer (some ⟨gs, 0, none⟩), .pointer (some ⟨gw, 0, none⟩)] w0 fun v w' => ∃ na' nn' nc', v = .tuple #[.slice na' nn' nc', .int .i64 (remF t N bi s l).2] ∧ nn' = (remF t N bi s l).1.length ∧
      Turned (eL [eV g b r1 r2 t a m c R C N, eR (.slice na nn nc) 9 1 nn (sv l), eB gw true (Blk 44 (birV x))]) (eL [eV g b r1 r2 t a m c (vwRead t R N (enN bi s)) C N, eR (.slice na' nn' nc') 9 1 nn' (sv (remF t N bi s l).1), eB gw true (Blk 44 (birV (dTg t N bi s).1))]) w0 w' := by
  have hs1 := h0.begin1
  have hs : St w0 (eL [eV g b r1 r2 t a m c R C N, eR (.slice na nn nc) 9 1 nn (sv l), eB gw true (Blk 44 (birV x))]).fp w0 [eV g b r1 r2 t a m c R C N, eR (.slice na nn nc) 9 1 nn (sv l), eB gw true (Blk 44 (birV x)), eB gs false (Blk 9 [.string s]), eB gv false (Blk 36 [.pointer (some ⟨g, 0, none⟩)]), eB gd false (Blk 44 (birV bi))] := hs1.unpackH rfl
  have hat := sbAt_le l s
  obtain ⟨y, hy⟩ : ∃ y, (dTg t N bi s).1 = y := ⟨_, rfl⟩
  refine Ret_enter Tryz.func102 rfl Tryz.ntmps102 (by simp) ?_
  refine CW_seq (fun K1 hK1 => ?_)
  refine CW_region ?_
  refine asp (.slice _ _ _) rfl ?_
  refine asp (.int _ _) rfl ?_
  refine WL_nil ?_
  refine hK1 _ _ ?_
  refine CW_seq (fun K2 hK2 => ?_)
  refine CW_region ?_
  refine ld hs rfl rfl ?_
  refine ldA hs rfl (by simp) ?_
  refine ld hs rfl rfl ?_
  refine cll (target_ok g b r1 r2 t a m c R C N bi s _ (hs.he _) ho hsz) ?_
  rintro _ w ⟨rfl, ht⟩
  replace hs := hs.turnE rfl ht
  rw [hy]
  refine mvp (.tuple _) rfl ?_
  refine ext rfl rfl ?_
  refine ext rfl rfl ?_
  refine alc hs ?_
  intro w g8 hs hg8 hf8
  refine sto (.agg (birV y).toArray) (vl := birV y) hs rfl rfl rfl rfl (by simp) rfl ?_
  intro w hs _
  replace hs : St w0 _ w (eB g8 true (Blk 44 (birV y)) :: _) := hs
  refine asp (.int _ _) rfl ?_
  refine WL_nil ?_
  refine hK2 _ _ ?_
  refine CW_seq (fun K3 hK3 => ?_)
  refine CW_region ?_
  refine ldA hs rfl (by simp) ?_
  refine sto (.agg (birV y).toArray) (vl := birV y) hs rfl rfl rfl rfl (by simp) rfl ?_
  intro w hs _
  replace hs : St w0 _ w (_ :: _ :: _ :: eB gw true (Blk 44 (birV y)) :: _) := hs
  refine WL_nil ?_
  refine hK3 _ _ ?_
  refine CW_seq (fun K4 hK4 => ?_)
  refine CW_seq (fun K5 hK5 => ?_)
  refine CW_region ?_
  refine mvp (.slice _ _ _) rfl ?_
  refine ld hs rfl rfl ?_
  refine cll (BSS_ok na nn nc l s _ (hs.rd (a := na)) hn (by omega)) ?_
  rintro _ w ⟨rfl, hf⟩
  replace hs := hs.call hf
  refine mvp (.tuple _) rfl ?_
  refine ext rfl rfl ?_
  refine ext rfl rfl ?_
  refine asp (.int _ _) rfl ?_
  refine asp (.bool _) rfl ?_
  refine WL_nil ?_
  refine hK5 _ _ ?_
  refine CW_seq (fun K6 hK6 => ?_)
  refine CW_region ?_
  refine mvp (.bool _) rfl ?_
  refine WL_nil ?_
  refine hK6 _ _ ?_
  refine CW_cond rfl (fun hc26 => ?_) (fun hc26 => ?_)
  · have h26 : sbFound l s = true := by simpa using hc26
    have hlt : sbAt l s < l.length := by unfold sbFound at h26; simp at h26; exact h26.1
    refine CW_region ?_
    refine mvp (.slice _ _ _) rfl ?_
    refine mvp (.int _ _) rfl ?_
    refine mvp (.int _ _) rfl ?_
    refine WL_v (v := .int .i64 ((sbAt l s + 1 : Nat) : Int)) (X_addE rfl rfl (by omega) (by omega)) ?_
    refine cll (SDelete_ok na nn nc l (sbAt l s) _ (hs.he _) (by omega) hn (by omega)) ?_
    rintro _ w ⟨a2, c2, rfl, ht⟩
    replace hs := hs.turnE rfl ht
    refine asp (.slice _ _ _) rfl ?_
    refine WL_nil ?_
    refine hK4 _ _ ?_
    refine CW_seq (fun K7 hK7 => ?_)
    refine CW_region ?_
    refine mvp (.slice _ _ _) rfl ?_
    refine mvp (.int _ _) rfl ?_
    refine asp (.slice _ _ _) rfl ?_
    refine asp (.int _ _) rfl ?_
    refine WL_nil ?_
    refine hK7 _ _ ?_
    refine CW_ret ?_
    repeat (first | (with_reducible apply thenF_ret) | (with_reducible apply blockF_ret))
    try simp only [thenF, blockF, reduceIte]
    refine Post_r Tryz.results102 (.tmp rfl (.tmp rfl .nil)) ?_
    try simp only [ev_tmp, ev_const, upd_ap, Nat.reduceLT, Nat.reduceEqDiff, reduceIte]
    rw [hy]
    first
      | (have e1 : remF t N bi s l = (l.eraseIdx (sbAt l s), (dTg t N bi s).2) := by unfold remF; rw [if_pos h26]
         rw [e1]
         exact ⟨a2, nn - 1, c2, rfl, by rw [List.length_eraseIdx_of_lt hlt]; omega, hs.ret3 rfl rfl rfl⟩)
      | (have e1 : remF t N bi s l = (l, (dTg t N bi s).2) := by unfold remF; rw [if_neg (by simpa using hc26)]
         rw [e1]
         exact ⟨na, nn, nc, rfl, hn, hs.ret3 rfl rfl rfl⟩)
  · skip
    refine CW_skip ?_
    refine hK4 _ _ ?_
    refine CW_seq (fun K8 hK8 => ?_)
    refine CW_region ?_
    refine mvp (.slice _ _ _) rfl ?_
    refine mvp (.int _ _) rfl ?_
    refine asp (.slice _ _ _) rfl ?_
    refine asp (.int _ _) rfl ?_
    refine WL_nil ?_
    refine hK8 _ _ ?_
    refine CW_ret ?_
    repeat (first | (with_reducible apply thenF_ret) | (with_reducible apply blockF_ret))
    try simp only [thenF, blockF, reduceIte]
    refine Post_r Tryz.results102 (.tmp rfl (.tmp rfl .nil)) ?_
    try simp only [ev_tmp, ev_const, upd_ap, Nat.reduceLT, Nat.reduceEqDiff, reduceIte]
    rw [hy]
    first
      | (have e1 : remF t N bi s l = (l.eraseIdx (sbAt l s), (dTg t N bi s).2) := by unfold remF; rw [if_pos h26]
         rw [e1]
         exact ⟨a2, nn - 1, c2, rfl, by rw [List.length_eraseIdx_of_lt hlt]; omega, hs.ret3 rfl rfl rfl⟩)
      | (have e1 : remF t N bi s l = (l, (dTg t N bi s).2) := by unfold remF; rw [if_neg (by simpa using hc26)]
         rw [e1]
         exact ⟨na, nn, nc, rfl, hn, hs.ret3 rfl rfl rfl⟩)
/-! ### change -/
def chE (t : Tr) (N : Chs) (b : Bir) (f : List ByteArray → List ByteArray × Int) : Int × Chs :=
  if (dLs t N b).2 ≠ 0 then ((dLs t N b).2, N) else if (f (dLs t N b).1).2 ≠ 0 then ((f (dLs t N b).1).2, N) else if ckNs (f (dLs t N b).1).1 ≠ 0 then (ckNs (f (dLs t N b).1).1, N) else
  (callE (lsN b) (str (nsEnc (f (dLs t N b).1).1), false), callN N (lsN b) (str (nsEnc (f (dLs t N b).1).1), false))
def chR (t : Tr) (R N : Chs) (b : Bir) (s : ByteArray) : Chs := if (dLs t N b).2 ≠ 0 then vwRead t R N (lsN b) else vwRead t (vwRead t R N (lsN b)) N (enN b s)
theorem insF_len {t : Tr} {N : Chs} {b : Bir} {s : ByteArray} {l : List ByteArray} (h : l.length ≤ 256) : (insF t N b s l).1.length ≤ 257 := by
  have := sbAt_le l s
  unfold insF
  repeat' split
  all_goals (simp <;> omega)
theorem remF_len {t : Tr} {N : Chs} {b : Bir} {s : ByteArray} {l : List ByteArray} (h : l.length ≤ 256) : (remF t N b s l).1.length ≤ 256 := by
  unfold remF
  simp only
  split
  · rw [List.length_eraseIdx]; split <;> omega
  · omega
theorem chIns_ok (g b r1 r2 : Nat) (t : Tr) (a : Option Addr) (m c : Nat) (R C N : Chs) (bi : Bir) (s : ByteArray) (gs gv gd : Nat) (qs qv qd : Bool) {W0 : World} {M : List Nat} (w0 : World)
    (h0 : St W0 M w0 [eV g b r1 r2 t a m c R C N, eB gs qs (Blk 9 [.string s]), eB gv qv (Blk 36 [.pointer (some ⟨g, 0, none⟩)]), eB gd qd (Blk 44 (birV bi))])
    (ho : bi.maker.size ≤ 4611686018427387904) (hsz : (vwGet t N (lsN bi)).1.size ≤ 140737488355328) (hm : m ≤ 1000000) :
    Ret Tryz.prog 98 #[.pointer (some ⟨g, 0, none⟩), .agg (birV bi).toArray, .func (.func 99) #[] #[.pointer (some ⟨gs, 0, none⟩), .pointer (some ⟨gv, 0, none⟩), .pointer (some ⟨gd, 0, none⟩)]] w0 fun v w' => v = .int .i64 (chE t N bi (insF t N bi s)).1 ∧ ∃ a' m' c' C', m' ≤ m + 1 ∧
      Turned (eV g b r1 r2 t a m c R C N) (eV g b r1 r2 t a' m' c' (chR t R N bi s) C' (chE t N bi (insF t N bi s)).2) w0 w' := by
  have hs : St w0 (eV g b r1 r2 t a m c R C N).fp w0 [eV g b r1 r2 t a m c R C N, eB gs false (Blk 9 [.string s]), eB gv false (Blk 36 [.pointer (some ⟨g, 0, none⟩)]), eB gd false (Blk 44 (birV bi))] := h0.begin1
  obtain ⟨L, hL⟩ : ∃ L, dLs t N bi = L := ⟨_, rfl⟩
  have hLl := dLs_len t N bi
  rw [hL] at hLl
  obtain ⟨K, hK⟩ : ∃ K, insF t N bi s L.1 = K := ⟨_, rfl⟩
  have hKl := insF_len (t := t) (N := N) (b := bi) (s := s) hLl
  rw [hK] at hKl
  refine Ret_enter Tryz.func98 rfl Tryz.ntmps98 (by simp) ?_
  refine CW_seq (fun K1 hK1 => ?_)
  refine CW_region ?_
  refine bx (.agg (birV bi).toArray) (vl := birV bi) hs rfl rfl ?_
  intro w g4 hs hg4 hf4
  refine asp (.int _ _) rfl ?_
  refine WL_nil ?_
  refine hK1 _ _ ?_
  refine CW_seq (fun K2 hK2 => ?_)
  refine CW_region ?_
  refine mvp (.pointer _) rfl ?_
  refine ldA hs rfl (by simp) ?_
  refine cll (dlist_ok g b r1 r2 t a m c R C N bi _ (hs.he _) ho hsz) ?_
  rintro _ w ⟨na, nn, nc, rfl, hnn, ht⟩
  replace hs := hs.turn2 ht rfl rfl rfl
  rw [hL] at hs hnn
  rw [hL]
  refine mvp (.tuple _) rfl ?_
  refine ext rfl rfl ?_
  refine ext rfl rfl ?_
  refine asp (.slice _ _ _) rfl ?_
  refine asp (.int _ _) rfl ?_
  refine WL_nil ?_
  refine hK2 _ _ ?_
  refine CW_seq (fun K3 hK3 => ?_)
  refine CW_seq (fun K4 hK4 => ?_)
  refine CW_region ?_
  refine mvp (.int _ _) rfl ?_
  refine neqW rfl rfl ?_
  refine WL_nil ?_
  refine hK4 _ _ ?_
  refine CW_cond rfl (fun hc17 => ?_) (fun hc17 => ?_)
  · skip
    refine CW_seq (fun K5 hK5 => ?_)
    refine CW_region ?_
    refine mvp (.int _ _) rfl ?_
    refine asp (.int _ _) rfl ?_
    refine WL_nil ?_
    refine hK5 _ _ ?_
    refine CW_ret ?_
    repeat (first | (with_reducible apply thenF_ret) | (with_reducible apply blockF_ret))
    try simp only [thenF, blockF, reduceIte]
    refine Post_r Tryz.results98 (.tmp rfl .nil) ?_
    try simp only [ev_tmp, ev_const, upd_ap, Nat.reduceLT, Nat.reduceEqDiff, reduceIte]
    have h17 : L.2 ≠ 0 := by simpa using hc17
    have e1 : chE t N bi (insF t N bi s) = (L.2, N) := by unfold chE; rw [hL, if_pos h17]
    have e2 : chR t R N bi s = vwRead t R N (lsN bi) := by unfold chR; rw [hL, if_pos h17]
    rw [e1, e2]
    exact ⟨by trivial, a, m, c, C, by omega, hs.ret1 rfl⟩
  · skip
    refine CW_skip ?_
    refine hK3 _ _ ?_
    refine CW_seq (fun K6 hK6 => ?_)
    refine CW_region ?_
    refine mvp (.func _ _ _) rfl ?_
    refine mvp (.slice _ _ _) rfl ?_
    refine clv (fn := 99) (first := []) (cap := [.pointer (some ⟨gs, 0, none⟩), .pointer (some ⟨gv, 0, none⟩), .pointer (some ⟨gd, 0, none⟩)]) rfl (insF_ok g b r1 r2 t a m c (vwRead t R N (lsN bi)) C N bi s gs gv gd false false false na nn nc L.1 _ ((hs.sel (H' := [eV g b r1 r2 t a m c (vwRead t R N (lsN bi)) C N, eR (.slice na nn nc) 9 1 nn (sv L.1), eB gs false (Blk 9 [.string s]), eB gv false (Blk 36 [.pointer (some ⟨g, 0, none⟩)]), eB gd false (Blk 44 (birV bi))])).pack2 rfl rfl) ho hnn (by omega)) ?_
    rintro _ w ⟨na2, nn2, nc2, rfl, hnn2, ht⟩
    replace hs := hs.turn22 ht rfl rfl rfl rfl
    rw [hK] at hs hnn2
    rw [hK]
    refine mvp (.tuple _) rfl ?_
    refine ext rfl rfl ?_
    refine ext rfl rfl ?_
    refine asp (.slice _ _ _) rfl ?_
    refine asp (.int _ _) rfl ?_
    refine WL_nil ?_
    refine hK6 _ _ ?_
    refine CW_seq (fun K7 hK7 => ?_)
    refine CW_seq (fun K8 hK8 => ?_)
    refine CW_region ?_
    refine mvp (.int _ _) rfl ?_
    refine neqW rfl rfl ?_
    refine WL_nil ?_
    refine hK8 _ _ ?_
    refine CW_cond rfl (fun hc26 => ?_) (fun hc26 => ?_)
    · skip
      refine CW_seq (fun K9 hK9 => ?_)
      refine CW_region ?_
      refine mvp (.int _ _) rfl ?_
      refine asp (.int _ _) rfl ?_
      refine WL_nil ?_
      refine hK9 _ _ ?_
      refine CW_ret ?_
      repeat (first | (with_reducible apply thenF_ret) | (with_reducible apply blockF_ret))
      try simp only [thenF, blockF, reduceIte]
      refine Post_r Tryz.results98 (.tmp rfl .nil) ?_
      try simp only [ev_tmp, ev_const, upd_ap, Nat.reduceLT, Nat.reduceEqDiff, reduceIte]
      have h17 : L.2 = 0 := by simpa using hc17
      have h26 : K.2 ≠ 0 := by simpa using hc26
      have e1 : chE t N bi (insF t N bi s) = (K.2, N) := by unfold chE; rw [hL, if_neg (by rw [h17]; simp), hK, if_pos h26]
      have e2 : chR t R N bi s = vwRead t (vwRead t R N (lsN bi)) N (enN bi s) := by unfold chR; rw [hL, if_neg (by rw [h17]; simp)]
      rw [e1, e2]
      exact ⟨by trivial, a, m, c, C, by omega, hs.ret1 rfl⟩
    · skip
      refine CW_skip ?_
      refine hK7 _ _ ?_
      refine CW_seq (fun K10 hK10 => ?_)
      refine CW_region ?_
      refine mvp (.slice _ _ _) rfl ?_
      refine cll (EncNames_ok K.1 na2 nn2 nc2 _ (hs.rd (a := na2)) hnn2 (by omega)) ?_
      rintro _ w ⟨rfl, hf⟩
      replace hs := hs.call hf
      refine mvp (.tuple _) rfl ?_
      refine ext rfl rfl ?_
      refine ext rfl rfl ?_
      refine asp (.string _) rfl ?_
      refine asp (.int _ _) rfl ?_
      refine WL_nil ?_
      refine hK10 _ _ ?_
      refine CW_seq (fun K11 hK11 => ?_)
      refine CW_seq (fun K12 hK12 => ?_)
      refine CW_region ?_
      refine mvp (.int _ _) rfl ?_
      refine neqW rfl rfl ?_
      refine WL_nil ?_
      refine hK12 _ _ ?_
      refine CW_cond rfl (fun hc34 => ?_) (fun hc34 => ?_)
      · skip
        refine CW_seq (fun K13 hK13 => ?_)
        refine CW_region ?_
        refine mvp (.int _ _) rfl ?_
        refine asp (.int _ _) rfl ?_
        refine WL_nil ?_
        refine hK13 _ _ ?_
        refine CW_ret ?_
        repeat (first | (with_reducible apply thenF_ret) | (with_reducible apply blockF_ret))
        try simp only [thenF, blockF, reduceIte]
        refine Post_r Tryz.results98 (.tmp rfl .nil) ?_
        try simp only [ev_tmp, ev_const, upd_ap, Nat.reduceLT, Nat.reduceEqDiff, reduceIte]
        have h17 : L.2 = 0 := by simpa using hc17
        have h26 : K.2 = 0 := by simpa using hc26
        have h34 : ckNs K.1 ≠ 0 := by simpa using hc34
        have e1 : chE t N bi (insF t N bi s) = (ckNs K.1, N) := by unfold chE; rw [hL, if_neg (by rw [h17]; simp), hK, if_neg (by rw [h26]; simp), if_pos h34]
        have e2 : chR t R N bi s = vwRead t (vwRead t R N (lsN bi)) N (enN bi s) := by unfold chR; rw [hL, if_neg (by rw [h17]; simp)]
        rw [e1, e2]
        exact ⟨by trivial, a, m, c, C, by omega, hs.ret1 rfl⟩
      · have h34 : ckNs K.1 = 0 := by simpa using hc34
        rw [if_pos h34]
        refine CW_skip ?_
        refine hK11 _ _ ?_
        refine CW_seq (fun K14 hK14 => ?_)
        refine CW_region ?_
        refine mvp (.pointer _) rfl ?_
        refine ldA hs rfl (by simp) ?_
        refine cll (OfListing_ok bi _ ho) ?_
        rintro _ w ⟨rfl, hf⟩
        replace hs := hs.call hf
        refine mvp (.string _) rfl ?_
        refine cll (VSet_ok g b r1 r2 t a m c (vwRead t (vwRead t R N (lsN bi)) N (enN bi s)) C N (lsN bi) (str (nsEnc K.1)) _ (hs.he _) ho hm) ?_
        rintro _ w ⟨rfl, a', m', c', C', hm', ht⟩
        replace hs := hs.turnE rfl ht
        refine asp (.int _ _) rfl ?_
        refine WL_nil ?_
        refine hK14 _ _ ?_
        refine CW_ret ?_
        repeat (first | (with_reducible apply thenF_ret) | (with_reducible apply blockF_ret))
        try simp only [thenF, blockF, reduceIte]
        refine Post_r Tryz.results98 (.tmp rfl .nil) ?_
        try simp only [ev_tmp, ev_const, upd_ap, Nat.reduceLT, Nat.reduceEqDiff, reduceIte]
        have h17 : L.2 = 0 := by simpa using hc17
        have h26 : K.2 = 0 := by simpa using hc26
        have e1 : chE t N bi (insF t N bi s) = (callE (lsN bi) (str (nsEnc K.1), false), callN N (lsN bi) (str (nsEnc K.1), false)) := by unfold chE; rw [hL, if_neg (by rw [h17]; simp), hK, if_neg (by rw [h26]; simp), if_neg (by rw [h34]; simp)]
        have e2 : chR t R N bi s = vwRead t (vwRead t R N (lsN bi)) N (enN bi s) := by unfold chR; rw [hL, if_neg (by rw [h17]; simp)]
        rw [e1, e2]
        exact ⟨by trivial, a', m', c', C', hm', hs.ret1 rfl⟩
def chW (t : Tr) (N : Chs) (b : Bir) (s : ByteArray) (x : Bir) : Bir := if (dLs t N b).2 ≠ 0 then x else (dTg t N b s).1
theorem chRem_ok (g b r1 r2 : Nat) (t : Tr) (a : Option Addr) (m c : Nat) (R C N : Chs) (bi : Bir) (s : ByteArray) (gs gv gd gw : Nat) (qs qv qd : Bool) (x : Bir) {W0 : World} {M : List Nat} (w0 : World)
    (h0 : St W0 M w0 [eL [eV g b r1 r2 t a m c R C N, eB gw true (Blk 44 (birV x))], eB gs qs (Blk 9 [.string s]), eB gv qv (Blk 36 [.pointer (some ⟨g, 0, none⟩)]), eB gd qd (Blk 44 (birV bi))])
    (ho : bi.maker.size ≤ 4611686018427387904) (hsz : (vwGet t N (lsN bi)).1.size ≤ 140737488355328) (hsz2 : (vwGet t N (enN bi s)).1.size ≤ 140737488355328) (hm : m ≤ 1000000) :
    Ret Tryz.prog 98 #[.pointer (some ⟨g, 0, none⟩), .agg (birV bi).toArray, .func (.func 102) #[] #[.pointer (some ⟨gv, 0, none⟩), .pointer (some ⟨gd, 0, none⟩), .pointer (some ⟨gs, 0, none⟩), .pointer (some ⟨gw, 0, none⟩)]] w0 fun v w' => v = .int .i64 (chE t N bi (remF t N bi s)).1 ∧ ∃ a' m' c' C', m' ≤ m + 1 ∧
      Turned (eL [eV g b r1 r2 t a m c R C N, eB gw true (Blk 44 (birV x))]) (eL [eV g b r1 r2 t a' m' c' (chR t R N bi s) C' (chE t N bi (remF t N bi s)).2, eB gw true (Blk 44 (birV (chW t N bi s x)))]) w0 w' := by
  have hs1 := h0.begin1
  have hs : St w0 (eL [eV g b r1 r2 t a m c R C N, eB gw true (Blk 44 (birV x))]).fp w0 [eV g b r1 r2 t a m c R C N, eB gw true (Blk 44 (birV x)), eB gs false (Blk 9 [.string s]), eB gv false (Blk 36 [.pointer (some ⟨g, 0, none⟩)]), eB gd false (Blk 44 (birV bi))] := hs1.unpackH rfl
  obtain ⟨L, hL⟩ : ∃ L, dLs t N bi = L := ⟨_, rfl⟩
  have hLl := dLs_len t N bi
  rw [hL] at hLl
  obtain ⟨K, hK⟩ : ∃ K, remF t N bi s L.1 = K := ⟨_, rfl⟩
  have hKl := remF_len (t := t) (N := N) (b := bi) (s := s) hLl
  rw [hK] at hKl
  refine Ret_enter Tryz.func98 rfl Tryz.ntmps98 (by simp) ?_
  refine CW_seq (fun K1 hK1 => ?_)
  refine CW_region ?_
  refine bx (.agg (birV bi).toArray) (vl := birV bi) hs rfl rfl ?_
  intro w g4 hs hg4 hf4
  refine asp (.int _ _) rfl ?_
  refine WL_nil ?_
  refine hK1 _ _ ?_
  refine CW_seq (fun K2 hK2 => ?_)
  refine CW_region ?_
  refine mvp (.pointer _) rfl ?_
  refine ldA hs rfl (by simp) ?_
  refine cll (dlist_ok g b r1 r2 t a m c R C N bi _ (hs.he _) ho hsz) ?_
  rintro _ w ⟨na, nn, nc, rfl, hnn, ht⟩
  replace hs := hs.turn2 ht rfl rfl rfl
  rw [hL] at hs hnn
  rw [hL]
  refine mvp (.tuple _) rfl ?_
  refine ext rfl rfl ?_
  refine ext rfl rfl ?_
  refine asp (.slice _ _ _) rfl ?_
  refine asp (.int _ _) rfl ?_
  refine WL_nil ?_
  refine hK2 _ _ ?_
  refine CW_seq (fun K3 hK3 => ?_)
  refine CW_seq (fun K4 hK4 => ?_)
  refine CW_region ?_
  refine mvp (.int _ _) rfl ?_
  refine neqW rfl rfl ?_
  refine WL_nil ?_
  refine hK4 _ _ ?_
  refine CW_cond rfl (fun hc17 => ?_) (fun hc17 => ?_)
  · skip
    refine CW_seq (fun K5 hK5 => ?_)
    refine CW_region ?_
    refine mvp (.int _ _) rfl ?_
    refine asp (.int _ _) rfl ?_
    refine WL_nil ?_
    refine hK5 _ _ ?_
    refine CW_ret ?_
    repeat (first | (with_reducible apply thenF_ret) | (with_reducible apply blockF_ret))
    try simp only [thenF, blockF, reduceIte]
    refine Post_r Tryz.results98 (.tmp rfl .nil) ?_
    try simp only [ev_tmp, ev_const, upd_ap, Nat.reduceLT, Nat.reduceEqDiff, reduceIte]
    have h17 : L.2 ≠ 0 := by simpa using hc17
    have e1 : chE t N bi (remF t N bi s) = (L.2, N) := by unfold chE; rw [hL, if_pos h17]
    have e2 : chR t R N bi s = vwRead t R N (lsN bi) := by unfold chR; rw [hL, if_pos h17]
    have e3 : chW t N bi s x = x := by unfold chW; rw [hL, if_pos h17]
    rw [e1, e2, e3]
    exact ⟨by trivial, a, m, c, C, by omega, hs.ret2 rfl rfl⟩
  · skip
    refine CW_skip ?_
    refine hK3 _ _ ?_
    refine CW_seq (fun K6 hK6 => ?_)
    refine CW_region ?_
    refine mvp (.func _ _ _) rfl ?_
    refine mvp (.slice _ _ _) rfl ?_
    refine clv (fn := 102) (first := []) (cap := [.pointer (some ⟨gv, 0, none⟩), .pointer (some ⟨gd, 0, none⟩), .pointer (some ⟨gs, 0, none⟩), .pointer (some ⟨gw, 0, none⟩)]) rfl (remF_ok g b r1 r2 t a m c (vwRead t R N (lsN bi)) C N bi s gs gv gd gw false false false na nn nc L.1 x _ (St.packH (H := [eV g b r1 r2 t a m c (vwRead t R N (lsN bi)) C N, eR (.slice na nn nc) 9 1 nn (sv L.1), eB gw true (Blk 44 (birV x))]) (hs.sel (H' := [eV g b r1 r2 t a m c (vwRead t R N (lsN bi)) C N, eR (.slice na nn nc) 9 1 nn (sv L.1), eB gw true (Blk 44 (birV x)), eB gs false (Blk 9 [.string s]), eB gv false (Blk 36 [.pointer (some ⟨g, 0, none⟩)]), eB gd false (Blk 44 (birV bi))])) (by intro x hx; simp at hx; rcases hx with rfl | rfl | rfl <;> rfl)) ho hsz2 hnn (by omega)) ?_
    rintro _ w ⟨na2, nn2, nc2, rfl, hnn2, ht⟩
    replace hs := hs.turn33 ht rfl rfl rfl rfl rfl rfl
    rw [hK] at hs hnn2
    rw [hK]
    refine mvp (.tuple _) rfl ?_
    refine ext rfl rfl ?_
    refine ext rfl rfl ?_
    refine asp (.slice _ _ _) rfl ?_
    refine asp (.int _ _) rfl ?_
    refine WL_nil ?_
    refine hK6 _ _ ?_
    refine CW_seq (fun K7 hK7 => ?_)
    refine CW_seq (fun K8 hK8 => ?_)
    refine CW_region ?_
    refine mvp (.int _ _) rfl ?_
    refine neqW rfl rfl ?_
    refine WL_nil ?_
    refine hK8 _ _ ?_
    refine CW_cond rfl (fun hc26 => ?_) (fun hc26 => ?_)
    · skip
      refine CW_seq (fun K9 hK9 => ?_)
      refine CW_region ?_
      refine mvp (.int _ _) rfl ?_
      refine asp (.int _ _) rfl ?_
      refine WL_nil ?_
      refine hK9 _ _ ?_
      refine CW_ret ?_
      repeat (first | (with_reducible apply thenF_ret) | (with_reducible apply blockF_ret))
      try simp only [thenF, blockF, reduceIte]
      refine Post_r Tryz.results98 (.tmp rfl .nil) ?_
      try simp only [ev_tmp, ev_const, upd_ap, Nat.reduceLT, Nat.reduceEqDiff, reduceIte]
      have h17 : L.2 = 0 := by simpa using hc17
      have h26 : K.2 ≠ 0 := by simpa using hc26
      have e1 : chE t N bi (remF t N bi s) = (K.2, N) := by unfold chE; rw [hL, if_neg (by rw [h17]; simp), hK, if_pos h26]
      have e2 : chR t R N bi s = vwRead t (vwRead t R N (lsN bi)) N (enN bi s) := by unfold chR; rw [hL, if_neg (by rw [h17]; simp)]
      have e3 : chW t N bi s x = (dTg t N bi s).1 := by unfold chW; rw [hL, if_neg (by rw [h17]; simp)]
      rw [e1, e2, e3]
      exact ⟨by trivial, a, m, c, C, by omega, hs.ret2 rfl rfl⟩
    · skip
      refine CW_skip ?_
      refine hK7 _ _ ?_
      refine CW_seq (fun K10 hK10 => ?_)
      refine CW_region ?_
      refine mvp (.slice _ _ _) rfl ?_
      refine cll (EncNames_ok K.1 na2 nn2 nc2 _ (hs.rd (a := na2)) hnn2 (by omega)) ?_
      rintro _ w ⟨rfl, hf⟩
      replace hs := hs.call hf
      refine mvp (.tuple _) rfl ?_
      refine ext rfl rfl ?_
      refine ext rfl rfl ?_
      refine asp (.string _) rfl ?_
      refine asp (.int _ _) rfl ?_
      refine WL_nil ?_
      refine hK10 _ _ ?_
      refine CW_seq (fun K11 hK11 => ?_)
      refine CW_seq (fun K12 hK12 => ?_)
      refine CW_region ?_
      refine mvp (.int _ _) rfl ?_
      refine neqW rfl rfl ?_
      refine WL_nil ?_
      refine hK12 _ _ ?_
      refine CW_cond rfl (fun hc34 => ?_) (fun hc34 => ?_)
      · skip
        refine CW_seq (fun K13 hK13 => ?_)
        refine CW_region ?_
        refine mvp (.int _ _) rfl ?_
        refine asp (.int _ _) rfl ?_
        refine WL_nil ?_
        refine hK13 _ _ ?_
        refine CW_ret ?_
        repeat (first | (with_reducible apply thenF_ret) | (with_reducible apply blockF_ret))
        try simp only [thenF, blockF, reduceIte]
        refine Post_r Tryz.results98 (.tmp rfl .nil) ?_
        try simp only [ev_tmp, ev_const, upd_ap, Nat.reduceLT, Nat.reduceEqDiff, reduceIte]
        have h17 : L.2 = 0 := by simpa using hc17
        have h26 : K.2 = 0 := by simpa using hc26
        have h34 : ckNs K.1 ≠ 0 := by simpa using hc34
        have e1 : chE t N bi (remF t N bi s) = (ckNs K.1, N) := by unfold chE; rw [hL, if_neg (by rw [h17]; simp), hK, if_neg (by rw [h26]; simp), if_pos h34]
        have e2 : chR t R N bi s = vwRead t (vwRead t R N (lsN bi)) N (enN bi s) := by unfold chR; rw [hL, if_neg (by rw [h17]; simp)]
        have e3 : chW t N bi s x = (dTg t N bi s).1 := by unfold chW; rw [hL, if_neg (by rw [h17]; simp)]
        rw [e1, e2, e3]
        exact ⟨by trivial, a, m, c, C, by omega, hs.ret2 rfl rfl⟩
      · have h34 : ckNs K.1 = 0 := by simpa using hc34
        rw [if_pos h34]
        refine CW_skip ?_
        refine hK11 _ _ ?_
        refine CW_seq (fun K14 hK14 => ?_)
        refine CW_region ?_
        refine mvp (.pointer _) rfl ?_
        refine ldA hs rfl (by simp) ?_
        refine cll (OfListing_ok bi _ ho) ?_
        rintro _ w ⟨rfl, hf⟩
        replace hs := hs.call hf
        refine mvp (.string _) rfl ?_
        refine cll (VSet_ok g b r1 r2 t a m c (vwRead t (vwRead t R N (lsN bi)) N (enN bi s)) C N (lsN bi) (str (nsEnc K.1)) _ (hs.he _) ho hm) ?_
        rintro _ w ⟨rfl, a', m', c', C', hm', ht⟩
        replace hs := hs.turnE rfl ht
        refine asp (.int _ _) rfl ?_
        refine WL_nil ?_
        refine hK14 _ _ ?_
        refine CW_ret ?_
        repeat (first | (with_reducible apply thenF_ret) | (with_reducible apply blockF_ret))
        try simp only [thenF, blockF, reduceIte]
        refine Post_r Tryz.results98 (.tmp rfl .nil) ?_
        try simp only [ev_tmp, ev_const, upd_ap, Nat.reduceLT, Nat.reduceEqDiff, reduceIte]
        have h17 : L.2 = 0 := by simpa using hc17
        have h26 : K.2 = 0 := by simpa using hc26
        have e1 : chE t N bi (remF t N bi s) = (callE (lsN bi) (str (nsEnc K.1), false), callN N (lsN bi) (str (nsEnc K.1), false)) := by unfold chE; rw [hL, if_neg (by rw [h17]; simp), hK, if_neg (by rw [h26]; simp), if_neg (by rw [h34]; simp)]
        have e2 : chR t R N bi s = vwRead t (vwRead t R N (lsN bi)) N (enN bi s) := by unfold chR; rw [hL, if_neg (by rw [h17]; simp)]
        have e3 : chW t N bi s x = (dTg t N bi s).1 := by unfold chW; rw [hL, if_neg (by rw [h17]; simp)]
        rw [e1, e2, e3]
        exact ⟨by trivial, a', m', c', C', hm', hs.ret2 rfl rfl⟩
end Go.Proofs.YtkbldndbofbkcaaGreatDoor
