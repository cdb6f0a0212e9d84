/- directory: Make, Drop, Find, Up, Insert, Remove, List. | Births compared; replevinlaw28.known. | Plain: names in order; what an insertion and a removal leave. | Plain: the directories that a view has; what the operations do to them. -/
import Derived.Test.YtkbldndbofbkcaaGreatDoorNF
set_option linter.unusedSimpArgs false
set_option linter.unusedVariables false
/- directory: Make, Drop, Find, Up, Insert, Remove, List. -/
namespace Go.Proofs.YtkbldndbofbkcaaGreatDoor
open Go Go.RowKit
attribute [local irreducible] WL CW DW Ret RW
abbrev dd : ByteArray := ⟨#[46, 46]⟩
theorem List_ok (g b r1 r2 : Nat) (t : Tr) (a : Option Addr) (m c : Nat) (R C N : Chs) (bi : Bir) (w0 : World) (hV : (eV g b r1 r2 t a m c R C N).holds w0) (ho : bi.maker.size ≤ 4611686018427387904)
    (hsz : (vwGet t N (lsN bi)).1.size ≤ 140737488355328) :
    Ret Tryz.prog 39 #[.pointer (some ⟨g, 0, none⟩), .agg (birV bi).toArray] w0 fun v w' => ∃ na nn nc, v = .tuple #[.slice na nn nc, .int .i64 (if birCheck bi ≠ 0 then ([], birCheck bi) else dLs t N bi).2] ∧ nn = (if birCheck bi ≠ 0 then ([], birCheck bi) else dLs t N bi).1.length ∧
      Turned (eV g b r1 r2 t a m c R C N) (eL [eV g b r1 r2 t a m c (if birCheck bi ≠ 0 then R else vwRead t R N (lsN bi)) C N, eR (.slice na nn nc) 9 1 nn (sv (if birCheck bi ≠ 0 then ([], birCheck bi) else dLs t N bi).1)]) w0 w' := by
  have hs := St.ent hV
  refine Ret_enter Tryz.func39 rfl Tryz.ntmps39 (by simp) ?_
  refine CW_seq (fun K1 hK1 => ?_)
  refine CW_region ?_
  refine bx (.agg (birV bi).toArray) (vl := birV bi) hs rfl rfl ?_
  intro w g3 hs hg3 hf3
  refine asp (.slice _ _ _) rfl ?_
  refine asp (.int _ _) rfl ?_
  refine WL_nil ?_
  refine hK1 _ _ ?_
  refine CW_seq (fun K2 hK2 => ?_)
  refine CW_seq (fun K3 hK3 => ?_)
  refine CW_region ?_
  refine mvp (.pointer _) rfl ?_
  refine ldA hs rfl (by simp) ?_
  refine cll (dbegin_ok g bi _ ho) ?_
  rintro _ w ⟨rfl, hf⟩
  replace hs := hs.call hf
  refine asp (.int _ _) rfl ?_
  refine WL_nil ?_
  refine hK3 _ _ ?_
  refine CW_seq (fun K4 hK4 => ?_)
  refine CW_region ?_
  refine mvp (.int _ _) rfl ?_
  refine neqW rfl rfl ?_
  refine WL_nil ?_
  refine hK4 _ _ ?_
  refine CW_cond rfl (fun hc11 => ?_) (fun hc11 => ?_)
  · skip
    refine CW_seq (fun K5 hK5 => ?_)
    refine CW_region ?_
    refine mvp (.int _ _) rfl ?_
    refine asp (.slice _ _ _) rfl ?_
    refine asp (.int _ _) rfl ?_
    refine WL_nil ?_
    refine hK5 _ _ ?_
    refine CW_ret ?_
    repeat (first | (with_reducible apply thenF_ret) | (with_reducible apply blockF_ret))
    try simp only [thenF, blockF, reduceIte]
    refine Post_r Tryz.results39 (.tmp rfl (.tmp rfl .nil)) ?_
    try simp only [ev_tmp, ev_const, upd_ap, Nat.reduceLT, Nat.reduceEqDiff, reduceIte]
    have h11 : birCheck bi ≠ 0 := by simpa using hc11
    simp only [if_pos h11]
    exact ⟨none, 0, 0, rfl, rfl, hs.ret2n rfl _ _⟩
  · skip
    refine CW_skip ?_
    refine hK2 _ _ ?_
    refine CW_seq (fun K6 hK6 => ?_)
    refine CW_region ?_
    refine mvp (.pointer _) rfl ?_
    refine ldA hs rfl (by simp) ?_
    refine cll (dlist_ok g b r1 r2 t a m c R C N bi _ (hs.he _) ho hsz) ?_
    rintro _ w ⟨na, nn, nc, rfl, hnn, ht⟩
    replace hs := hs.turn2 ht rfl rfl rfl
    refine ext rfl rfl ?_
    refine ext rfl rfl ?_
    refine asp (.slice _ _ _) rfl ?_
    refine asp (.int _ _) rfl ?_
    refine WL_nil ?_
    refine hK6 _ _ ?_
    refine CW_ret ?_
    repeat (first | (with_reducible apply thenF_ret) | (with_reducible apply blockF_ret))
    try simp only [thenF, blockF, reduceIte]
    refine Post_r Tryz.results39 (.tmp rfl (.tmp rfl .nil)) ?_
    try simp only [ev_tmp, ev_const, upd_ap, Nat.reduceLT, Nat.reduceEqDiff, reduceIte]
    have h11 : ¬ birCheck bi ≠ 0 := by simpa using hc11
    simp only [if_neg h11]
    exact ⟨na, nn, nc, rfl, hnn, hs.ret2 rfl rfl⟩
def upT (t : Tr) (N : Chs) (b : Bir) : Bir × Int := if birCheck b ≠ 0 then (⟨⟨#[]⟩, 0⟩, birCheck b) else dTg t N b dd
theorem Up_ok (g b r1 r2 : Nat) (t : Tr) (a : Option Addr) (m c : Nat) (R C N : Chs) (bi : Bir) (w0 : World) (hV : (eV g b r1 r2 t a m c R C N).holds w0) (ho : bi.maker.size ≤ 4611686018427387904)
    (hsz : (vwGet t N (enN bi dd)).1.size ≤ 140737488355328) :
    Ret Tryz.prog 92 #[.pointer (some ⟨g, 0, none⟩), .agg (birV bi).toArray] w0 fun v w' => v = .tuple #[.agg (birV (upT t N bi).1).toArray, .int .i64 (upT t N bi).2] ∧
      Turned (eV g b r1 r2 t a m c R C N) (eV g b r1 r2 t a m c (if birCheck bi ≠ 0 then R else vwRead t R N (enN bi dd)) C N) w0 w' := by
  have hs := St.ent hV
  obtain ⟨y, hy⟩ : ∃ y, dTg t N bi dd = y := ⟨_, rfl⟩
  refine Ret_enter Tryz.func92 rfl Tryz.ntmps92 (by simp) ?_
  refine CW_seq (fun K1 hK1 => ?_)
  refine CW_region ?_
  refine bx (.agg (birV bi).toArray) (vl := birV bi) hs rfl rfl ?_
  intro w g3 hs hg3 hf3
  refine alc hs ?_
  intro w g4 hs hg4 hf4
  refine asp (.int _ _) rfl ?_
  refine WL_nil ?_
  refine hK1 _ _ ?_
  refine CW_seq (fun K2 hK2 => ?_)
  refine CW_seq (fun K3 hK3 => ?_)
  refine CW_region ?_
  refine mvp (.pointer _) rfl ?_
  refine ldA hs rfl (by simp) ?_
  refine cll (dbegin_ok g bi _ ho) ?_
  rintro _ w ⟨rfl, hf⟩
  replace hs := hs.call hf
  refine asp (.int _ _) rfl ?_
  refine WL_nil ?_
  refine hK3 _ _ ?_
  refine CW_seq (fun K4 hK4 => ?_)
  refine CW_region ?_
  refine mvp (.int _ _) rfl ?_
  refine neqW rfl rfl ?_
  refine WL_nil ?_
  refine hK4 _ _ ?_
  refine CW_cond rfl (fun hc11 => ?_) (fun hc11 => ?_)
  · skip
    refine CW_seq (fun K5 hK5 => ?_)
    refine CW_region ?_
    refine WL_v (v := .agg (birV ⟨⟨#[]⟩, 0⟩).toArray) (X_build rfl rfl) ?_
    refine mvp (.int _ _) rfl ?_
    refine sto (.agg (birV ⟨⟨#[]⟩, 0⟩).toArray) (vl := birV ⟨⟨#[]⟩, 0⟩) hs rfl rfl rfl rfl (by simp) rfl ?_
    intro w hs _
    replace hs : St w0 _ w (eB g4 true (Blk 44 (birV ⟨⟨#[]⟩, 0⟩)) :: _) := hs
    refine asp (.int _ _) rfl ?_
    refine WL_nil ?_
    refine hK5 _ _ ?_
    refine CW_ret ?_
    repeat (first | (with_reducible apply thenF_ret) | (with_reducible apply blockF_ret))
    try simp only [thenF, blockF, reduceIte]
    refine Post_r Tryz.results92 (.cell rfl (lvA hs (by simp)) (.tmp rfl .nil)) ?_
    try simp only [ev_tmp, ev_const, upd_ap, Nat.reduceLT, Nat.reduceEqDiff, reduceIte]
    have h11 : birCheck bi ≠ 0 := by simpa using hc11
    unfold upT
    simp only [if_pos h11]
    exact ⟨by trivial, hs.ret1 rfl⟩
  · skip
    refine CW_skip ?_
    refine hK2 _ _ ?_
    refine CW_seq (fun K6 hK6 => ?_)
    refine CW_region ?_
    refine mvp (.pointer _) rfl ?_
    refine ldA hs rfl (by simp) ?_
    refine cll (target_ok g b r1 r2 t a m c R C N bi dd _ (hs.he _) ho hsz) ?_
    rintro _ w ⟨rfl, ht⟩
    replace hs := hs.turnE rfl ht
    rw [hy]
    refine ext rfl rfl ?_
    refine ext rfl rfl ?_
    refine sto (.agg (birV y.1).toArray) (vl := birV y.1) hs rfl rfl rfl rfl (by simp) rfl ?_
    intro w hs _
    replace hs : St w0 _ w (eB g4 true (Blk 44 (birV y.1)) :: _) := hs
    refine asp (.int _ _) rfl ?_
    refine WL_nil ?_
    refine hK6 _ _ ?_
    refine CW_ret ?_
    repeat (first | (with_reducible apply thenF_ret) | (with_reducible apply blockF_ret))
    try simp only [thenF, blockF, reduceIte]
    refine Post_r Tryz.results92 (.cell rfl (lvA hs (by simp)) (.tmp rfl .nil)) ?_
    try simp only [ev_tmp, ev_const, upd_ap, Nat.reduceLT, Nat.reduceEqDiff, reduceIte]
    have h11 : ¬ birCheck bi ≠ 0 := by simpa using hc11
    unfold upT
    simp only [if_neg h11, hy]
    exact ⟨by trivial, hs.ret1 rfl⟩
def fndT (t : Tr) (N : Chs) (b : Bir) (s : ByteArray) : Bir × Int := if fstE [birCheck b, ckN s] ≠ 0 then (⟨⟨#[]⟩, 0⟩, fstE [birCheck b, ckN s]) else dTg t N b s
theorem Find_ok (g b r1 r2 : Nat) (t : Tr) (a : Option Addr) (m c : Nat) (R C N : Chs) (bi : Bir) (s : ByteArray) (w0 : World) (hV : (eV g b r1 r2 t a m c R C N).holds w0) (ho : bi.maker.size ≤ 4611686018427387904)
    (hsz : (vwGet t N (enN bi s)).1.size ≤ 140737488355328) :
    Ret Tryz.prog 63 #[.pointer (some ⟨g, 0, none⟩), .agg (birV bi).toArray, .string s] w0 fun v w' => v = .tuple #[.agg (birV (fndT t N bi s).1).toArray, .int .i64 (fndT t N bi s).2] ∧
      Turned (eV g b r1 r2 t a m c R C N) (eV g b r1 r2 t a m c (if fstE [birCheck bi, ckN s] ≠ 0 then R else vwRead t R N (enN bi s)) C N) w0 w' := by
  have hs := St.ent hV
  obtain ⟨y, hy⟩ : ∃ y, dTg t N bi s = y := ⟨_, rfl⟩
  refine Ret_enter Tryz.func63 rfl Tryz.ntmps63 (by simp) ?_
  refine CW_seq (fun K1 hK1 => ?_)
  refine CW_region ?_
  refine bx (.agg (birV bi).toArray) (vl := birV bi) hs rfl rfl ?_
  intro w g4 hs hg4 hf4
  refine alc hs ?_
  intro w g6 hs hg6 hf6
  refine asp (.int _ _) rfl ?_
  refine WL_nil ?_
  refine hK1 _ _ ?_
  refine CW_seq (fun K2 hK2 => ?_)
  refine CW_seq (fun K3 hK3 => ?_)
  refine CW_region ?_
  refine mvp (.pointer _) rfl ?_
  refine ldA hs rfl (by simp) ?_
  refine cll (dbegin_ok g bi _ ho) ?_
  rintro _ w ⟨rfl, hf⟩
  replace hs := hs.call hf
  refine mvp (.string _) rfl ?_
  refine cll (CkName_ok s _) ?_
  rintro _ w ⟨rfl, hf⟩
  replace hs := hs.call hf
  refine W_bslice hs (BS.ii rfl (BS.ii rfl .nil)) rfl (by simp) ?_
  intro w g14 hs hg14 hf14
  refine cll (first_ok [birCheck bi, ckN s] (some ⟨g14, 0, none⟩) 2 2 _ (rdB hs (by simp) rfl) rfl (by omega)) ?_
  rintro _ w ⟨rfl, hf⟩
  replace hs := hs.call hf
  refine asp (.int _ _) rfl ?_
  refine WL_nil ?_
  refine hK3 _ _ ?_
  refine CW_seq (fun K4 hK4 => ?_)
  refine CW_region ?_
  refine mvp (.int _ _) rfl ?_
  refine neqW rfl rfl ?_
  refine WL_nil ?_
  refine hK4 _ _ ?_
  refine CW_cond rfl (fun hc17 => ?_) (fun hc17 => ?_)
  · skip
    refine CW_seq (fun K5 hK5 => ?_)
    refine CW_region ?_
    refine WL_v (v := .agg (birV ⟨⟨#[]⟩, 0⟩).toArray) (X_build rfl rfl) ?_
    refine mvp (.int _ _) rfl ?_
    refine sto (.agg (birV ⟨⟨#[]⟩, 0⟩).toArray) (vl := birV ⟨⟨#[]⟩, 0⟩) hs rfl rfl rfl rfl (by simp) rfl ?_
    intro w hs _
    replace hs : St w0 _ w (_ :: eB g6 true (Blk 44 (birV ⟨⟨#[]⟩, 0⟩)) :: _) := hs
    refine asp (.int _ _) rfl ?_
    refine WL_nil ?_
    refine hK5 _ _ ?_
    refine CW_ret ?_
    repeat (first | (with_reducible apply thenF_ret) | (with_reducible apply blockF_ret))
    try simp only [thenF, blockF, reduceIte]
    refine Post_r Tryz.results63 (.cell rfl (lvA hs (by simp)) (.tmp rfl .nil)) ?_
    try simp only [ev_tmp, ev_const, upd_ap, Nat.reduceLT, Nat.reduceEqDiff, reduceIte]
    have h11 : fstE [birCheck bi, ckN s] ≠ 0 := by simpa using hc17
    unfold fndT
    simp only [if_pos h11]
    exact ⟨by trivial, hs.ret1 rfl⟩
  · skip
    refine CW_skip ?_
    refine hK2 _ _ ?_
    refine CW_seq (fun K6 hK6 => ?_)
    refine CW_region ?_
    refine mvp (.pointer _) rfl ?_
    refine ldA hs rfl (by simp) ?_
    refine mvp (.string _) rfl ?_
    refine cll (target_ok g b r1 r2 t a m c R C N bi s _ (hs.he _) ho hsz) ?_
    rintro _ w ⟨rfl, ht⟩
    replace hs := hs.turnE rfl ht
    rw [hy]
    refine ext rfl rfl ?_
    refine ext rfl rfl ?_
    refine sto (.agg (birV y.1).toArray) (vl := birV y.1) hs rfl rfl rfl rfl (by simp) rfl ?_
    intro w hs _
    replace hs : St w0 _ w (_ :: eB g6 true (Blk 44 (birV y.1)) :: _) := hs
    refine asp (.int _ _) rfl ?_
    refine WL_nil ?_
    refine hK6 _ _ ?_
    refine CW_ret ?_
    repeat (first | (with_reducible apply thenF_ret) | (with_reducible apply blockF_ret))
    try simp only [thenF, blockF, reduceIte]
    refine Post_r Tryz.results63 (.cell rfl (lvA hs (by simp)) (.tmp rfl .nil)) ?_
    try simp only [ev_tmp, ev_const, upd_ap, Nat.reduceLT, Nat.reduceEqDiff, reduceIte]
    have h11 : ¬ fstE [birCheck bi, ckN s] ≠ 0 := by simpa using hc17
    unfold fndT
    simp only [if_neg h11, hy]
    exact ⟨by trivial, hs.ret1 rfl⟩
def insV (t : Tr) (N : Chs) (b : Bir) (s : ByteArray) (x : Bir) : Int × Chs :=
  if fstE [birCheck b, ckN s, birCheck x] ≠ 0 then (fstE [birCheck b, ckN s, birCheck x], N) else if (chE t N b (insF t N b s)).1 ≠ 0 then chE t N b (insF t N b s) else
  (ptE b s x, ptN (chE t N b (insF t N b s)).2 b s x)
def insR (t : Tr) (R N : Chs) (b : Bir) (s : ByteArray) (x : Bir) : Chs := if fstE [birCheck b, ckN s, birCheck x] ≠ 0 then R else chR t R N b s
theorem DInsert_ok (g b r1 r2 : Nat) (t : Tr) (a : Option Addr) (m c : Nat) (R C N : Chs) (bi : Bir) (s : ByteArray) (x : Bir) (w0 : World) (hV : (eV g b r1 r2 t a m c R C N).holds w0) (ho : bi.maker.size ≤ 4611686018427387904) (hx : x.maker.size ≤ 4611686018427387904)
    (hsz : (vwGet t N (lsN bi)).1.size ≤ 140737488355328) (hm : m ≤ 999999) :
    Ret Tryz.prog 37 #[.pointer (some ⟨g, 0, none⟩), .agg (birV bi).toArray, .string s, .agg (birV x).toArray] w0 fun v w' => v = .int .i64 (insV t N bi s x).1 ∧ ∃ a' m' c' C', m' ≤ m + 2 ∧
      Turned (eV g b r1 r2 t a m c R C N) (eV g b r1 r2 t a' m' c' (insR t R N bi s x) C' (insV t N bi s x).2) w0 w' := by
  have hs := St.ent hV
  obtain ⟨K, hK⟩ : ∃ K, chE t N bi (insF t N bi s) = K := ⟨_, rfl⟩
  refine Ret_enter Tryz.func37 rfl Tryz.ntmps37 (by simp) ?_
  refine CW_seq (fun K1 hK1 => ?_)
  refine CW_region ?_
  refine bx (.pointer (some ⟨g, 0, none⟩)) hs rfl rfl ?_
  intro w g4 hs hg4 hf4
  refine bx (.agg (birV bi).toArray) (vl := birV bi) hs rfl rfl ?_
  intro w g5 hs hg5 hf5
  refine bx (.string s) hs rfl rfl ?_
  intro w g6 hs hg6 hf6
  refine bx (.agg (birV x).toArray) (vl := birV x) hs rfl rfl ?_
  intro w g7 hs hg7 hf7
  refine asp (.int _ _) rfl ?_
  refine WL_nil ?_
  refine hK1 _ _ ?_
  refine CW_seq (fun K2 hK2 => ?_)
  refine CW_seq (fun K3 hK3 => ?_)
  refine DW_s hs 8 ([eB g4 true (Blk 36 [.pointer (some ⟨g, 0, none⟩)]), eB g5 true (Blk 44 (birV bi)), eB g6 true (Blk 9 [.string s]), eB g7 true (Blk 44 (birV x))]) ?_
  intro w hs _
  refine DW_q hs 0 rfl (by kernel_rfl) (fun w' hw' => X_ldH hw' rfl rfl) ?_
  refine DW_q hs 1 rfl (by kernel_rfl) (fun w' hw' => X_ldAH hw' rfl (by simp)) ?_
  refine DW_q hs 3 rfl (by kernel_rfl) (fun w' hw' => X_ldH hw' rfl rfl) ?_
  refine DW_q hs 5 rfl (by kernel_rfl) (fun w' hw' => X_ldAH hw' rfl (by simp)) ?_
  refine DW_l 2 rfl (by kernel_rfl) ?_
  refine cll (dbegin_ok g bi _ ho) ?_
  rintro _ w ⟨rfl, hf⟩
  replace hs := hs.call hf
  refine WL_nil ?_
  refine ⟨.inr hs.hold, ?_⟩
  refine DW_l 4 rfl (by kernel_rfl) ?_
  refine cll (CkName_ok s _) ?_
  rintro _ w ⟨rfl, hf⟩
  replace hs := hs.call hf
  refine WL_nil ?_
  refine ⟨.inr hs.hold, ?_⟩
  refine DW_l 6 rfl (by kernel_rfl) ?_
  refine cll (BCheck_ok x _ hx) ?_
  rintro _ w ⟨rfl, hf⟩
  replace hs := hs.call hf
  refine WL_nil ?_
  refine ⟨.inr hs.hold, ?_⟩
  refine DW_l 7 rfl (by kernel_rfl) ?_
  refine W_bslice hs (BS.ii rfl (BS.ii rfl (BS.ii rfl .nil))) rfl (by simp) ?_
  intro w g18 hs hg18 hf18
  refine WL_nil ?_
  refine ⟨.inr hs.hold, ?_⟩
  refine DW_l 8 rfl (by kernel_rfl) ?_
  refine cll (first_ok [birCheck bi, ckN s, birCheck x] (some ⟨g18, 0, none⟩) 3 3 _ (rdB hs (by simp) rfl) rfl (by omega)) ?_
  rintro _ w ⟨rfl, hf⟩
  replace hs := hs.call hf
  refine WL_nil ?_
  refine ⟨.inl rfl, ?_⟩
  refine DW_l 9 rfl (by kernel_rfl) ?_
  refine asp (.int _ _) rfl ?_
  refine WL_nil ?_
  refine ⟨.inr hs.hold, ?_⟩
  refine DW_e (by kernel_rfl) ?_
  refine hK3 _ _ ?_
  refine CW_seq (fun K4 hK4 => ?_)
  refine CW_region ?_
  refine mvp (.int _ _) rfl ?_
  refine neqW rfl rfl ?_
  refine WL_nil ?_
  refine hK4 _ _ ?_
  refine CW_cond rfl (fun hc21 => ?_) (fun hc21 => ?_)
  · skip
    refine CW_seq (fun K5 hK5 => ?_)
    refine CW_region ?_
    refine mvp (.int _ _) rfl ?_
    refine asp (.int _ _) rfl ?_
    refine WL_nil ?_
    refine hK5 _ _ ?_
    refine CW_ret ?_
    repeat (first | (with_reducible apply thenF_ret) | (with_reducible apply blockF_ret))
    try simp only [thenF, blockF, reduceIte]
    refine Post_r Tryz.results37 (.tmp rfl .nil) ?_
    try simp only [ev_tmp, ev_const, upd_ap, Nat.reduceLT, Nat.reduceEqDiff, reduceIte]
    have h21 : fstE [birCheck bi, ckN s, birCheck x] ≠ 0 := by simpa using hc21
    have e1 : insV t N bi s x = (fstE [birCheck bi, ckN s, birCheck x], N) := by unfold insV; rw [if_pos h21]
    have e2 : insR t R N bi s x = R := by unfold insR; rw [if_pos h21]
    rw [e1, e2]
    exact ⟨by trivial, a, m, c, C, by omega, hs.ret1 rfl⟩
  · skip
    refine CW_skip ?_
    refine hK2 _ _ ?_
    refine CW_seq (fun K6 hK6 => ?_)
    refine CW_region ?_
    refine ld hs rfl rfl ?_
    refine ldA hs rfl (by simp) ?_
    apply mkf
    refine cll (chIns_ok g b r1 r2 t a m c R C N bi s g6 g4 g5 true true true _ (hs.sel (H' := [eV g b r1 r2 t a m c R C N, eB g6 true (Blk 9 [.string s]), eB g4 true (Blk 36 [.pointer (some ⟨g, 0, none⟩)]), eB g5 true (Blk 44 (birV bi))])) ho hsz (by omega)) ?_
    rintro _ w ⟨rfl, a1, m1, c1, C1, hm1, ht⟩
    replace hs := hs.turnE rfl ht
    rw [hK] at hs
    rw [hK]
    refine asp (.int _ _) rfl ?_
    refine WL_nil ?_
    refine hK6 _ _ ?_
    refine CW_seq (fun K7 hK7 => ?_)
    refine CW_seq (fun K8 hK8 => ?_)
    refine CW_region ?_
    refine mvp (.int _ _) rfl ?_
    refine neqW rfl rfl ?_
    refine WL_nil ?_
    refine hK8 _ _ ?_
    refine CW_cond rfl (fun hc28 => ?_) (fun hc28 => ?_)
    · skip
      refine CW_seq (fun K9 hK9 => ?_)
      refine CW_region ?_
      refine mvp (.int _ _) rfl ?_
      refine asp (.int _ _) rfl ?_
      refine WL_nil ?_
      refine hK9 _ _ ?_
      refine CW_ret ?_
      repeat (first | (with_reducible apply thenF_ret) | (with_reducible apply blockF_ret))
      try simp only [thenF, blockF, reduceIte]
      refine Post_r Tryz.results37 (.tmp rfl .nil) ?_
      try simp only [ev_tmp, ev_const, upd_ap, Nat.reduceLT, Nat.reduceEqDiff, reduceIte]
      have h21 : ¬ fstE [birCheck bi, ckN s, birCheck x] ≠ 0 := by simpa using hc21
      have h28 : K.1 ≠ 0 := by simpa using hc28
      have e1 : insV t N bi s x = K := by unfold insV; rw [if_neg h21, hK, if_pos h28]
      have e2 : insR t R N bi s x = chR t R N bi s := by unfold insR; rw [if_neg h21]
      rw [e1, e2]
      exact ⟨by trivial, a1, m1, c1, C1, by omega, hs.ret1 rfl⟩
    · skip
      refine CW_skip ?_
      refine hK7 _ _ ?_
      refine CW_seq (fun K10 hK10 => ?_)
      refine CW_region ?_
      refine ld hs rfl rfl ?_
      refine ldA hs rfl (by simp) ?_
      refine ld hs rfl rfl ?_
      refine ldA hs rfl (by simp) ?_
      refine cll (point_ok g b r1 r2 t a1 m1 c1 (chR t R N bi s) C1 K.2 bi s x _ (hs.he _) ho hx (by omega)) ?_
      rintro _ w ⟨rfl, a2, m2, c2, C2, hm2, ht⟩
      replace hs := hs.turnE rfl ht
      refine asp (.int _ _) rfl ?_
      refine WL_nil ?_
      refine hK10 _ _ ?_
      refine CW_ret ?_
      repeat (first | (with_reducible apply thenF_ret) | (with_reducible apply blockF_ret))
      try simp only [thenF, blockF, reduceIte]
      refine Post_r Tryz.results37 (.tmp rfl .nil) ?_
      try simp only [ev_tmp, ev_const, upd_ap, Nat.reduceLT, Nat.reduceEqDiff, reduceIte]
      have h21 : ¬ fstE [birCheck bi, ckN s, birCheck x] ≠ 0 := by simpa using hc21
      have h28 : ¬ K.1 ≠ 0 := by simpa using hc28
      have e1 : insV t N bi s x = (ptE bi s x, ptN K.2 bi s x) := by unfold insV; rw [if_neg h21, hK, if_neg h28]
      have e2 : insR t R N bi s x = chR t R N bi s := by unfold insR; rw [if_neg h21]
      rw [e1, e2]
      exact ⟨by trivial, a2, m2, c2, C2, by omega, hs.ret1 rfl⟩
def rmV (t : Tr) (N : Chs) (b : Bir) (s : ByteArray) : (Bir × Int) × Chs :=
  if fstE [birCheck b, ckN s] ≠ 0 then ((⟨⟨#[]⟩, 0⟩, fstE [birCheck b, ckN s]), N) else if (chE t N b (remF t N b s)).1 ≠ 0 then ((⟨⟨#[]⟩, 0⟩, (chE t N b (remF t N b s)).1), (chE t N b (remF t N b s)).2) else
  ((chW t N b s ⟨⟨#[]⟩, 0⟩, callE (enN b s) (⟨#[]⟩, true)), callN (chE t N b (remF t N b s)).2 (enN b s) (⟨#[]⟩, true))
def rmR (t : Tr) (R N : Chs) (b : Bir) (s : ByteArray) : Chs := if fstE [birCheck b, ckN s] ≠ 0 then R else chR t R N b s
theorem DRemove_ok (g b r1 r2 : Nat) (t : Tr) (a : Option Addr) (m c : Nat) (R C N : Chs) (bi : Bir) (s : ByteArray) (w0 : World) (hV : (eV g b r1 r2 t a m c R C N).holds w0) (ho : bi.maker.size ≤ 4611686018427387904)
    (hsz : (vwGet t N (lsN bi)).1.size ≤ 140737488355328) (hsz2 : (vwGet t N (enN bi s)).1.size ≤ 140737488355328) (hm : m ≤ 999999) :
    Ret Tryz.prog 38 #[.pointer (some ⟨g, 0, none⟩), .agg (birV bi).toArray, .string s] w0 fun v w' => v = .tuple #[.agg (birV (rmV t N bi s).1.1).toArray, .int .i64 (rmV t N bi s).1.2] ∧ ∃ a' m' c' C', m' ≤ m + 2 ∧
      Turned (eV g b r1 r2 t a m c R C N) (eV g b r1 r2 t a' m' c' (rmR t R N bi s) C' (rmV t N bi s).2) w0 w' := by
  have hs := St.ent hV
  obtain ⟨K, hK⟩ : ∃ K, chE t N bi (remF t N bi s) = K := ⟨_, rfl⟩
  obtain ⟨y, hy⟩ : ∃ y, chW t N bi s ⟨⟨#[]⟩, 0⟩ = y := ⟨_, rfl⟩
  refine Ret_enter Tryz.func38 rfl Tryz.ntmps38 (by simp) ?_
  refine CW_seq (fun K1 hK1 => ?_)
  refine CW_region ?_
  refine bx (.pointer (some ⟨g, 0, none⟩)) hs rfl rfl ?_
  intro w g3 hs hg3 hf3
  refine bx (.agg (birV bi).toArray) (vl := birV bi) hs rfl rfl ?_
  intro w g4 hs hg4 hf4
  refine bx (.string s) hs rfl rfl ?_
  intro w g5 hs hg5 hf5
  refine alc hs ?_
  intro w g6 hs hg6 hf6
  refine asp (.int _ _) rfl ?_
  refine WL_nil ?_
  refine hK1 _ _ ?_
  refine CW_seq (fun K2 hK2 => ?_)
  refine CW_seq (fun K3 hK3 => ?_)
  refine DW_s hs 6 ([eB g3 true (Blk 36 [.pointer (some ⟨g, 0, none⟩)]), eB g4 true (Blk 44 (birV bi)), eB g5 true (Blk 9 [.string s])]) ?_
  intro w hs _
  refine DW_q hs 0 rfl (by kernel_rfl) (fun w' hw' => X_ldH hw' rfl rfl) ?_
  refine DW_q hs 1 rfl (by kernel_rfl) (fun w' hw' => X_ldAH hw' rfl (by simp)) ?_
  refine DW_q hs 3 rfl (by kernel_rfl) (fun w' hw' => X_ldH hw' rfl rfl) ?_
  refine DW_l 2 rfl (by kernel_rfl) ?_
  refine cll (dbegin_ok g bi _ ho) ?_
  rintro _ w ⟨rfl, hf⟩
  replace hs := hs.call hf
  refine WL_nil ?_
  refine ⟨.inr hs.hold, ?_⟩
  refine DW_l 4 rfl (by kernel_rfl) ?_
  refine cll (CkName_ok s _) ?_
  rintro _ w ⟨rfl, hf⟩
  replace hs := hs.call hf
  refine WL_nil ?_
  refine ⟨.inr hs.hold, ?_⟩
  refine DW_l 5 rfl (by kernel_rfl) ?_
  refine W_bslice hs (BS.ii rfl (BS.ii rfl .nil)) rfl (by simp) ?_
  intro w g16 hs hg16 hf16
  refine WL_nil ?_
  refine ⟨.inr hs.hold, ?_⟩
  refine DW_l 6 rfl (by kernel_rfl) ?_
  refine cll (first_ok [birCheck bi, ckN s] (some ⟨g16, 0, none⟩) 2 2 _ (rdB hs (by simp) rfl) rfl (by omega)) ?_
  rintro _ w ⟨rfl, hf⟩
  replace hs := hs.call hf
  refine WL_nil ?_
  refine ⟨.inl rfl, ?_⟩
  refine DW_l 7 rfl (by kernel_rfl) ?_
  refine asp (.int _ _) rfl ?_
  refine WL_nil ?_
  refine ⟨.inr hs.hold, ?_⟩
  refine DW_e (by kernel_rfl) ?_
  refine hK3 _ _ ?_
  refine CW_seq (fun K4 hK4 => ?_)
  refine CW_region ?_
  refine mvp (.int _ _) rfl ?_
  refine neqW rfl rfl ?_
  refine WL_nil ?_
  refine hK4 _ _ ?_
  refine CW_cond rfl (fun hc19 => ?_) (fun hc19 => ?_)
  · skip
    refine CW_seq (fun K5 hK5 => ?_)
    refine CW_region ?_
    refine WL_v (v := .agg (birV ⟨⟨#[]⟩, 0⟩).toArray) (X_build rfl rfl) ?_
    refine mvp (.int _ _) rfl ?_
    refine sto (.agg (birV ⟨⟨#[]⟩, 0⟩).toArray) (vl := birV ⟨⟨#[]⟩, 0⟩) hs rfl rfl rfl rfl (by simp) rfl ?_
    intro w hs _
    replace hs : St w0 _ w (_ :: eB g6 true (Blk 44 (birV ⟨⟨#[]⟩, 0⟩)) :: _) := hs
    refine asp (.int _ _) rfl ?_
    refine WL_nil ?_
    refine hK5 _ _ ?_
    refine CW_ret ?_
    repeat (first | (with_reducible apply thenF_ret) | (with_reducible apply blockF_ret))
    try simp only [thenF, blockF, reduceIte]
    refine Post_r Tryz.results38 (.cell rfl (lvA hs (by simp)) (.tmp rfl .nil)) ?_
    try simp only [ev_tmp, ev_const, upd_ap, Nat.reduceLT, Nat.reduceEqDiff, reduceIte]
    have h19 : fstE [birCheck bi, ckN s] ≠ 0 := by simpa using hc19
    have e1 : rmV t N bi s = ((⟨⟨#[]⟩, 0⟩, fstE [birCheck bi, ckN s]), N) := by unfold rmV; rw [if_pos h19]
    have e2 : rmR t R N bi s = R := by unfold rmR; rw [if_pos h19]
    rw [e1, e2]
    exact ⟨by trivial, a, m, c, C, by omega, hs.ret1 rfl⟩
  · skip
    refine CW_skip ?_
    refine hK2 _ _ ?_
    refine CW_seq (fun K6 hK6 => ?_)
    refine CW_region ?_
    refine alc hs ?_
    intro w g9 hs hg9 hf9
    refine WL_nil ?_
    refine hK6 _ _ ?_
    refine CW_seq (fun K7 hK7 => ?_)
    refine CW_region ?_
    refine ld hs rfl rfl ?_
    refine ldA hs rfl (by simp) ?_
    apply mkf
    refine cll (chRem_ok g b r1 r2 t a m c R C N bi s g5 g3 g4 g9 true true true ⟨⟨#[]⟩, 0⟩ _ (St.packH (H := [eV g b r1 r2 t a m c R C N, eB g9 true (Blk 44 (birV ⟨⟨#[]⟩, 0⟩))]) (hs.sel (H' := [eV g b r1 r2 t a m c R C N, eB g9 true (Blk 44 [.string ⟨#[]⟩, .int .i64 0]), eB g5 true (Blk 9 [.string s]), eB g3 true (Blk 36 [.pointer (some ⟨g, 0, none⟩)]), eB g4 true (Blk 44 (birV bi))])) (by intro x hx; simp at hx; rcases hx with rfl | rfl <;> rfl)) ho hsz hsz2 (by omega)) ?_
    rintro _ w ⟨rfl, a1, m1, c1, C1, hm1, ht⟩
    replace hs := hs.turn22 (e2 := eB g9 true (Blk 44 [.string ⟨#[]⟩, .int .i64 0])) ht rfl rfl rfl rfl
    rw [hK, hy] at hs
    rw [hK]
    refine asp (.int _ _) rfl ?_
    refine WL_nil ?_
    refine hK7 _ _ ?_
    refine CW_seq (fun K8 hK8 => ?_)
    refine CW_seq (fun K9 hK9 => ?_)
    refine CW_region ?_
    refine mvp (.int _ _) rfl ?_
    refine neqW rfl rfl ?_
    refine WL_nil ?_
    refine hK9 _ _ ?_
    refine CW_cond rfl (fun hc27 => ?_) (fun hc27 => ?_)
    · skip
      refine CW_seq (fun K10 hK10 => ?_)
      refine CW_region ?_
      refine WL_v (v := .agg (birV ⟨⟨#[]⟩, 0⟩).toArray) (X_build rfl rfl) ?_
      refine mvp (.int _ _) rfl ?_
      refine sto (.agg (birV ⟨⟨#[]⟩, 0⟩).toArray) (vl := birV ⟨⟨#[]⟩, 0⟩) hs rfl rfl rfl rfl (by simp) rfl ?_
      intro w hs _
      replace hs : St w0 _ w (_ :: _ :: _ :: eB g6 true (Blk 44 (birV ⟨⟨#[]⟩, 0⟩)) :: _) := hs
      refine asp (.int _ _) rfl ?_
      refine WL_nil ?_
      refine hK10 _ _ ?_
      refine CW_ret ?_
      repeat (first | (with_reducible apply thenF_ret) | (with_reducible apply blockF_ret))
      try simp only [thenF, blockF, reduceIte]
      refine Post_r Tryz.results38 (.cell rfl (lvA hs (by simp)) (.tmp rfl .nil)) ?_
      try simp only [ev_tmp, ev_const, upd_ap, Nat.reduceLT, Nat.reduceEqDiff, reduceIte]
      have h19 : ¬ fstE [birCheck bi, ckN s] ≠ 0 := by simpa using hc19
      have h27 : K.1 ≠ 0 := by simpa using hc27
      have e1 : rmV t N bi s = ((⟨⟨#[]⟩, 0⟩, K.1), K.2) := by unfold rmV; rw [if_neg h19, hK, if_pos h27]
      have e2 : rmR t R N bi s = chR t R N bi s := by unfold rmR; rw [if_neg h19]
      rw [e1, e2]
      exact ⟨by trivial, a1, m1, c1, C1, by omega, hs.ret1 rfl⟩
    · skip
      refine CW_skip ?_
      refine hK8 _ _ ?_
      refine CW_seq (fun K11 hK11 => ?_)
      refine DW_s hs 6 ([eB g3 true (Blk 36 [.pointer (some ⟨g, 0, none⟩)]), eB g4 true (Blk 44 (birV bi)), eB g5 true (Blk 9 [.string s]), eB g9 true (Blk 44 (birV y))]) ?_
      intro w hs _
      refine DW_q hs 0 rfl (by kernel_rfl) (fun w' hw' => X_ldAH hw' rfl (by simp)) ?_
      refine DW_q hs 1 rfl (by kernel_rfl) (fun w' hw' => X_ldH hw' rfl rfl) ?_
      refine DW_q hs 2 rfl (by kernel_rfl) (fun w' hw' => X_ldAH hw' rfl (by simp)) ?_
      refine DW_q hs 3 rfl (by kernel_rfl) (fun w' hw' => X_ldH hw' rfl rfl) ?_
      refine DW_l 4 rfl (by kernel_rfl) ?_
      refine cll (OfEntry_ok bi s _ ho) ?_
      rintro _ w ⟨rfl, hf⟩
      replace hs := hs.call hf
      refine WL_nil ?_
      refine ⟨.inr hs.hold, ?_⟩
      refine DW_l 5 rfl (by kernel_rfl) ?_
      refine cll (VDelete_ok g b r1 r2 t a1 m1 c1 (chR t R N bi s) C1 K.2 (enN bi s) _ (hs.he _) ho (by omega)) ?_
      rintro _ w ⟨rfl, a2, m2, c2, C2, hm2, ht⟩
      replace hs := hs.turnE rfl ht
      refine WL_nil ?_
      refine ⟨.inr hs.hold, ?_⟩
      refine DW_l 6 rfl (by kernel_rfl) ?_
      refine sto (.agg (birV y).toArray) (vl := birV y) hs rfl rfl rfl rfl (by simp) rfl ?_
      intro w hs _
      replace hs : St w0 _ w (_ :: _ :: _ :: eB g6 true (Blk 44 (birV y)) :: _) := hs
      refine WL_nil ?_
      refine ⟨.inl rfl, ?_⟩
      refine DW_l 7 rfl (by kernel_rfl) ?_
      refine asp (.int _ _) rfl ?_
      refine WL_nil ?_
      refine ⟨.inr hs.hold, ?_⟩
      refine DW_e (by kernel_rfl) ?_
      refine hK11 _ _ ?_
      refine CW_ret ?_
      repeat (first | (with_reducible apply thenF_ret) | (with_reducible apply blockF_ret))
      try simp only [thenF, blockF, reduceIte]
      refine Post_r Tryz.results38 (.cell rfl (lvA hs (by simp)) (.tmp rfl .nil)) ?_
      try simp only [ev_tmp, ev_const, upd_ap, Nat.reduceLT, Nat.reduceEqDiff, reduceIte]
      have h19 : ¬ fstE [birCheck bi, ckN s] ≠ 0 := by simpa using hc19
      have h27 : ¬ K.1 ≠ 0 := by simpa using hc27
      have e1 : rmV t N bi s = ((y, callE (enN bi s) (⟨#[]⟩, true)), callN K.2 (enN bi s) (⟨#[]⟩, true)) := by unfold rmV; rw [if_neg h19, hK, if_neg h27, hy]
      have e2 : rmR t R N bi s = chR t R N bi s := by unfold rmR; rw [if_neg h19]
      rw [e1, e2]
      exact ⟨by trivial, a2, m2, c2, C2, by omega, hs.ret1 rfl⟩
def mkV (t : Tr) (N : Chs) (b p : Bir) : Int × Chs :=
  if fstE [birCheck b, birCheck p] ≠ 0 then (fstE [birCheck b, birCheck p], N) else if (vwGet t N (lsN b)).2 = true then (13, N) else
  (fstE [callE (lsN b) (str (nsEnc []), false), ptE b dd p], ptN (callN N (lsN b) (str (nsEnc []), false)) b dd p)
def mkR (t : Tr) (R N : Chs) (b p : Bir) : Chs := if fstE [birCheck b, birCheck p] ≠ 0 then R else vwRead t R N (lsN b)
theorem Make_ok (g b r1 r2 : Nat) (t : Tr) (a : Option Addr) (m c : Nat) (R C N : Chs) (bi p : Bir) (w0 : World) (hV : (eV g b r1 r2 t a m c R C N).holds w0) (ho : bi.maker.size ≤ 4611686018427387904) (hp : p.maker.size ≤ 4611686018427387904) (hm : m ≤ 999999) :
    Ret Tryz.prog 36 #[.pointer (some ⟨g, 0, none⟩), .agg (birV bi).toArray, .agg (birV p).toArray] w0 fun v w' => v = .int .i64 (mkV t N bi p).1 ∧ ∃ a' m' c' C', m' ≤ m + 2 ∧
      Turned (eV g b r1 r2 t a m c R C N) (eV g b r1 r2 t a' m' c' (mkR t R N bi p) C' (mkV t N bi p).2) w0 w' := by
  have hs := St.ent hV
  refine Ret_enter Tryz.func36 rfl Tryz.ntmps36 (by simp) ?_
  refine CW_seq (fun K1 hK1 => ?_)
  refine CW_region ?_
  refine bx (.agg (birV bi).toArray) (vl := birV bi) hs rfl rfl ?_
  intro w g4 hs hg4 hf4
  refine bx (.agg (birV p).toArray) (vl := birV p) hs rfl rfl ?_
  intro w g5 hs hg5 hf5
  refine asp (.int _ _) rfl ?_
  refine WL_nil ?_
  refine hK1 _ _ ?_
  refine CW_seq (fun K2 hK2 => ?_)
  refine CW_seq (fun K3 hK3 => ?_)
  refine DW_s hs 6 ([eB g4 true (Blk 44 (birV bi)), eB g5 true (Blk 44 (birV p))]) ?_
  intro w hs _
  refine DW_q hs 0 rfl (by kernel_rfl) (fun w' hw' => X_move (v := (.pointer _)) rfl) ?_
  refine DW_q hs 1 rfl (by kernel_rfl) (fun w' hw' => X_ldAH hw' rfl (by simp)) ?_
  refine DW_q hs 3 rfl (by kernel_rfl) (fun w' hw' => X_ldAH hw' rfl (by simp)) ?_
  refine DW_l 2 rfl (by kernel_rfl) ?_
  refine cll (dbegin_ok g bi _ ho) ?_
  rintro _ w ⟨rfl, hf⟩
  replace hs := hs.call hf
  refine WL_nil ?_
  refine ⟨.inr hs.hold, ?_⟩
  refine DW_l 4 rfl (by kernel_rfl) ?_
  refine cll (BCheck_ok p _ hp) ?_
  rintro _ w ⟨rfl, hf⟩
  replace hs := hs.call hf
  refine WL_nil ?_
  refine ⟨.inr hs.hold, ?_⟩
  refine DW_l 5 rfl (by kernel_rfl) ?_
  refine W_bslice hs (BS.ii rfl (BS.ii rfl .nil)) rfl (by simp) ?_
  intro w g15 hs hg15 hf15
  refine WL_nil ?_
  refine ⟨.inr hs.hold, ?_⟩
  refine DW_l 6 rfl (by kernel_rfl) ?_
  refine cll (first_ok [birCheck bi, birCheck p] (some ⟨g15, 0, none⟩) 2 2 _ (rdB hs (by simp) rfl) rfl (by omega)) ?_
  rintro _ w ⟨rfl, hf⟩
  replace hs := hs.call hf
  refine WL_nil ?_
  refine ⟨.inl rfl, ?_⟩
  refine DW_l 7 rfl (by kernel_rfl) ?_
  refine asp (.int _ _) rfl ?_
  refine WL_nil ?_
  refine ⟨.inr hs.hold, ?_⟩
  refine DW_e (by kernel_rfl) ?_
  refine hK3 _ _ ?_
  refine CW_seq (fun K4 hK4 => ?_)
  refine CW_region ?_
  refine mvp (.int _ _) rfl ?_
  refine neqW rfl rfl ?_
  refine WL_nil ?_
  refine hK4 _ _ ?_
  refine CW_cond rfl (fun hc18 => ?_) (fun hc18 => ?_)
  · skip
    refine CW_seq (fun K5 hK5 => ?_)
    refine CW_region ?_
    refine mvp (.int _ _) rfl ?_
    refine asp (.int _ _) rfl ?_
    refine WL_nil ?_
    refine hK5 _ _ ?_
    refine CW_ret ?_
    repeat (first | (with_reducible apply thenF_ret) | (with_reducible apply blockF_ret))
    try simp only [thenF, blockF, reduceIte]
    refine Post_r Tryz.results36 (.tmp rfl .nil) ?_
    try simp only [ev_tmp, ev_const, upd_ap, Nat.reduceLT, Nat.reduceEqDiff, reduceIte]
    have h18 : fstE [birCheck bi, birCheck p] ≠ 0 := by simpa using hc18
    have e1 : mkV t N bi p = (fstE [birCheck bi, birCheck p], N) := by unfold mkV; rw [if_pos h18]
    have e2 : mkR t R N bi p = R := by unfold mkR; rw [if_pos h18]
    rw [e1, e2]
    exact ⟨by trivial, a, m, c, C, by omega, hs.ret1 rfl⟩
  · skip
    refine CW_skip ?_
    refine hK2 _ _ ?_
    refine CW_seq (fun K6 hK6 => ?_)
    refine CW_seq (fun K7 hK7 => ?_)
    refine CW_region ?_
    refine mvp (.pointer _) rfl ?_
    refine ldA hs rfl (by simp) ?_
    refine cll (OfListing_ok bi _ ho) ?_
    rintro _ w ⟨rfl, hf⟩
    replace hs := hs.call hf
    refine cll (VHas_ok g b r1 r2 t a m c R C N (lsN bi) _ (hs.he _) ho) ?_
    rintro _ w ⟨rfl, ht⟩
    replace hs := hs.turnE rfl ht
    refine WL_nil ?_
    refine hK7 _ _ ?_
    refine CW_cond rfl (fun hc23 => ?_) (fun hc23 => ?_)
    · skip
      refine CW_seq (fun K8 hK8 => ?_)
      refine CW_region ?_
      refine asp (.int _ _) rfl ?_
      refine WL_nil ?_
      refine hK8 _ _ ?_
      refine CW_ret ?_
      repeat (first | (with_reducible apply thenF_ret) | (with_reducible apply blockF_ret))
      try simp only [thenF, blockF, reduceIte]
      refine Post_r Tryz.results36 (.tmp rfl .nil) ?_
      try simp only [ev_tmp, ev_const, upd_ap, Nat.reduceLT, Nat.reduceEqDiff, reduceIte]
      have h18 : ¬ fstE [birCheck bi, birCheck p] ≠ 0 := by simpa using hc18
      have e1 : mkV t N bi p = (13, N) := by unfold mkV; rw [if_neg h18, if_pos (by simpa using hc23)]
      have e2 : mkR t R N bi p = vwRead t R N (lsN bi) := by unfold mkR; rw [if_neg h18]
      rw [e1, e2]
      exact ⟨by trivial, a, m, c, C, by omega, hs.ret1 rfl⟩
    · skip
      refine CW_skip ?_
      refine hK6 _ _ ?_
      refine CW_seq (fun K9 hK9 => ?_)
      refine CW_region ?_
      refine cll (EncNames_ok [] none 0 0 _ (PRd_nil _).1 rfl (by omega)) ?_
      rintro _ w ⟨rfl, hf⟩
      replace hs := hs.call hf
      rw [show (if ckNs [] = 0 then str (nsEnc []) else (⟨#[]⟩ : ByteArray)) = str (nsEnc []) from rfl]
      refine mvp (.tuple _) rfl ?_
      refine ext rfl rfl ?_
      refine ext rfl rfl ?_
      refine asp (.string _) rfl ?_
      refine asp (.int _ _) rfl ?_
      refine WL_nil ?_
      refine hK9 _ _ ?_
      refine CW_seq (fun K10 hK10 => ?_)
      refine DW_s hs 10 ([eB g4 true (Blk 44 (birV bi)), eB g5 true (Blk 44 (birV p))]) ?_
      intro w hs _
      refine DW_q hs 0 rfl (by kernel_rfl) (fun w' hw' => X_move (v := (.pointer _)) rfl) ?_
      refine DW_q hs 1 rfl (by kernel_rfl) (fun w' hw' => X_ldAH hw' rfl (by simp)) ?_
      refine DW_q hs 3 rfl (by kernel_rfl) (fun w' hw' => X_move (v := (.string _)) rfl) ?_
      refine DW_q hs 5 rfl (by kernel_rfl) (fun w' hw' => X_move (v := (.pointer _)) rfl) ?_
      refine DW_q hs 6 rfl (by kernel_rfl) (fun w' hw' => X_ldAH hw' rfl (by simp)) ?_
      refine DW_q hs 7 rfl (by kernel_rfl) (fun w' hw' => X_ldAH hw' rfl (by simp)) ?_
      refine DW_l 2 rfl (by kernel_rfl) ?_
      refine cll (OfListing_ok bi _ ho) ?_
      rintro _ w ⟨rfl, hf⟩
      replace hs := hs.call hf
      refine WL_nil ?_
      refine ⟨.inr hs.hold, ?_⟩
      refine DW_l 4 rfl (by kernel_rfl) ?_
      refine cll (VSet_ok g b r1 r2 t a m c (vwRead t R N (lsN bi)) C N (lsN bi) (str (nsEnc [])) _ (hs.he _) ho (by omega)) ?_
      rintro _ w ⟨rfl, a1, m1, c1, C1, hm1, ht⟩
      replace hs := hs.turnE rfl ht
      refine WL_nil ?_
      refine ⟨.inr hs.hold, ?_⟩
      refine DW_l 8 rfl (by kernel_rfl) ?_
      refine cll (point_ok g b r1 r2 t a1 m1 c1 (vwRead t R N (lsN bi)) C1 (callN N (lsN bi) (str (nsEnc []), false)) bi dd p _ (hs.he _) ho hp (by omega)) ?_
      rintro _ w ⟨rfl, a2, m2, c2, C2, hm2, ht⟩
      replace hs := hs.turnE rfl ht
      refine WL_nil ?_
      refine ⟨.inr hs.hold, ?_⟩
      refine DW_l 9 rfl (by kernel_rfl) ?_
      refine W_bslice hs (BS.ii rfl (BS.ii rfl .nil)) rfl (by simp) ?_
      intro w g37 hs hg37 hf37
      refine WL_nil ?_
      refine ⟨.inr hs.hold, ?_⟩
      refine DW_l 10 rfl (by kernel_rfl) ?_
      refine cll (first_ok [callE (lsN bi) (str (nsEnc []), false), ptE bi dd p] (some ⟨g37, 0, none⟩) 2 2 _ (rdB hs (by simp) rfl) rfl (by omega)) ?_
      rintro _ w ⟨rfl, hf⟩
      replace hs := hs.call hf
      refine WL_nil ?_
      refine ⟨.inl rfl, ?_⟩
      refine DW_l 11 rfl (by kernel_rfl) ?_
      refine asp (.int _ _) rfl ?_
      refine WL_nil ?_
      refine ⟨.inr hs.hold, ?_⟩
      refine DW_e (by kernel_rfl) ?_
      refine hK10 _ _ ?_
      refine CW_ret ?_
      repeat (first | (with_reducible apply thenF_ret) | (with_reducible apply blockF_ret))
      try simp only [thenF, blockF, reduceIte]
      refine Post_r Tryz.results36 (.tmp rfl .nil) ?_
      try simp only [ev_tmp, ev_const, upd_ap, Nat.reduceLT, Nat.reduceEqDiff, reduceIte]
      have h18 : ¬ fstE [birCheck bi, birCheck p] ≠ 0 := by simpa using hc18
      have e1 : mkV t N bi p = (fstE [callE (lsN bi) (str (nsEnc []), false), ptE bi dd p], ptN (callN N (lsN bi) (str (nsEnc []), false)) bi dd p) := by unfold mkV; rw [if_neg h18, if_neg (by simpa using hc23)]
      have e2 : mkR t R N bi p = vwRead t R N (lsN bi) := by unfold mkR; rw [if_neg h18]
      rw [e1, e2]
      exact ⟨by trivial, a2, m2, c2, C2, by omega, hs.ret1 rfl⟩
def drV (t : Tr) (N : Chs) (b : Bir) : Int × Chs :=
  if birCheck b ≠ 0 then (birCheck b, N) else if (dLs t N b).2 ≠ 0 then ((dLs t N b).2, N) else if 0 < (dLs t N b).1.length then (17, N) else
  (fstE [callE (lsN b) (⟨#[]⟩, true), callE (enN b dd) (⟨#[]⟩, true)], callN (callN N (lsN b) (⟨#[]⟩, true)) (enN b dd) (⟨#[]⟩, true))
def drR (t : Tr) (R N : Chs) (b : Bir) : Chs := if birCheck b ≠ 0 then R else vwRead t R N (lsN b)
theorem Drop_ok (g b r1 r2 : Nat) (t : Tr) (a : Option Addr) (m c : Nat) (R C N : Chs) (bi : Bir) (w0 : World) (hV : (eV g b r1 r2 t a m c R C N).holds w0) (ho : bi.maker.size ≤ 4611686018427387904)
    (hsz : (vwGet t N (lsN bi)).1.size ≤ 140737488355328) (hm : m ≤ 999999) :
    Ret Tryz.prog 64 #[.pointer (some ⟨g, 0, none⟩), .agg (birV bi).toArray] w0 fun v w' => v = .int .i64 (drV t N bi).1 ∧ ∃ a' m' c' C', m' ≤ m + 2 ∧
      Turned (eV g b r1 r2 t a m c R C N) (eV g b r1 r2 t a' m' c' (drR t R N bi) C' (drV t N bi).2) w0 w' := by
  have hs := St.ent hV
  obtain ⟨L, hL⟩ : ∃ L, dLs t N bi = L := ⟨_, rfl⟩
  refine Ret_enter Tryz.func64 rfl Tryz.ntmps64 (by simp) ?_
  refine CW_seq (fun K1 hK1 => ?_)
  refine CW_region ?_
  refine bx (.agg (birV bi).toArray) (vl := birV bi) hs rfl rfl ?_
  intro w g3 hs hg3 hf3
  refine asp (.int _ _) rfl ?_
  refine WL_nil ?_
  refine hK1 _ _ ?_
  refine CW_seq (fun K2 hK2 => ?_)
  refine CW_seq (fun K3 hK3 => ?_)
  refine CW_region ?_
  refine mvp (.pointer _) rfl ?_
  refine ldA hs rfl (by simp) ?_
  refine cll (dbegin_ok g bi _ ho) ?_
  rintro _ w ⟨rfl, hf⟩
  replace hs := hs.call hf
  refine asp (.int _ _) rfl ?_
  refine WL_nil ?_
  refine hK3 _ _ ?_
  refine CW_seq (fun K4 hK4 => ?_)
  refine CW_region ?_
  refine mvp (.int _ _) rfl ?_
  refine neqW rfl rfl ?_
  refine WL_nil ?_
  refine hK4 _ _ ?_
  refine CW_cond rfl (fun hc12 => ?_) (fun hc12 => ?_)
  · skip
    refine CW_seq (fun K5 hK5 => ?_)
    refine CW_region ?_
    refine mvp (.int _ _) rfl ?_
    refine asp (.int _ _) rfl ?_
    refine WL_nil ?_
    refine hK5 _ _ ?_
    refine CW_ret ?_
    repeat (first | (with_reducible apply thenF_ret) | (with_reducible apply blockF_ret))
    try simp only [thenF, blockF, reduceIte]
    refine Post_r Tryz.results64 (.tmp rfl .nil) ?_
    try simp only [ev_tmp, ev_const, upd_ap, Nat.reduceLT, Nat.reduceEqDiff, reduceIte]
    have h12 : birCheck bi ≠ 0 := by simpa using hc12
    have e1 : drV t N bi = (birCheck bi, N) := by unfold drV; rw [if_pos h12]
    have e2 : drR t R N bi = R := by unfold drR; rw [if_pos h12]
    rw [e1, e2]
    exact ⟨by trivial, a, m, c, C, by omega, hs.ret1 rfl⟩
  · skip
    refine CW_skip ?_
    refine hK2 _ _ ?_
    refine CW_seq (fun K6 hK6 => ?_)
    refine CW_region ?_
    refine mvp (.pointer _) rfl ?_
    refine ldA hs rfl (by simp) ?_
    refine cll (dlist_ok g b r1 r2 t a m c R C N bi _ (hs.he _) ho hsz) ?_
    rintro _ w ⟨na, nn, nc, rfl, hnn, ht⟩
    replace hs := hs.turn2 ht rfl rfl rfl
    rw [hL] at hs hnn
    rw [hL]
    refine mvp (.tuple _) rfl ?_
    refine ext rfl rfl ?_
    refine ext rfl rfl ?_
    refine asp (.slice _ _ _) rfl ?_
    refine asp (.int _ _) rfl ?_
    refine WL_nil ?_
    refine hK6 _ _ ?_
    refine CW_seq (fun K7 hK7 => ?_)
    refine CW_block ?_
    refine CW_seq (fun K8 hK8 => ?_)
    refine CW_region ?_
    refine mvp (.int _ _) rfl ?_
    refine neqW rfl rfl ?_
    refine asp (.bool _) rfl ?_
    refine WL_nil ?_
    refine hK8 _ _ ?_
    refine CW_cond rfl (fun hc20 => ?_) (fun hc20 => ?_)
    · skip
      refine CW_seq (fun K9 hK9 => ?_)
      refine CW_region ?_
      refine mvp (.int _ _) rfl ?_
      refine asp (.int _ _) rfl ?_
      refine WL_nil ?_
      refine hK9 _ _ ?_
      refine CW_ret ?_
      repeat (first | (with_reducible apply thenF_ret) | (with_reducible apply blockF_ret))
      try simp only [thenF, blockF, reduceIte]
      refine Post_r Tryz.results64 (.tmp rfl .nil) ?_
      try simp only [ev_tmp, ev_const, upd_ap, Nat.reduceLT, Nat.reduceEqDiff, reduceIte]
      have h12 : ¬ birCheck bi ≠ 0 := by simpa using hc12
      have h20 : L.2 ≠ 0 := by simpa using hc20
      have e1 : drV t N bi = (L.2, N) := by unfold drV; rw [if_neg h12, hL, if_pos h20]
      have e2 : drR t R N bi = vwRead t R N (lsN bi) := by unfold drR; rw [if_neg h12]
      rw [e1, e2]
      exact ⟨by trivial, a, m, c, C, by omega, hs.ret1 rfl⟩
    · skip
      refine CW_seq (fun K10 hK10 => ?_)
      refine CW_region ?_
      refine mvp (.slice _ _ _) rfl ?_
      refine lenW rfl ?_
      refine gtrW rfl rfl ?_
      refine asp (.bool _) rfl ?_
      refine WL_nil ?_
      refine hK10 _ _ ?_
      refine CW_cond rfl (fun hc24 => ?_) (fun hc24 => ?_)
      · skip
        refine CW_seq (fun K11 hK11 => ?_)
        refine CW_region ?_
        refine asp (.int _ _) rfl ?_
        refine WL_nil ?_
        refine hK11 _ _ ?_
        refine CW_ret ?_
        repeat (first | (with_reducible apply thenF_ret) | (with_reducible apply blockF_ret))
        try simp only [thenF, blockF, reduceIte]
        refine Post_r Tryz.results64 (.tmp rfl .nil) ?_
        try simp only [ev_tmp, ev_const, upd_ap, Nat.reduceLT, Nat.reduceEqDiff, reduceIte]
        have h12 : ¬ birCheck bi ≠ 0 := by simpa using hc12
        have h20 : ¬ L.2 ≠ 0 := by simpa using hc20
        have e1 : drV t N bi = (17, N) := by unfold drV; rw [if_neg h12, hL, if_neg h20, if_pos (by simp at hc24; omega)]
        have e2 : drR t R N bi = vwRead t R N (lsN bi) := by unfold drR; rw [if_neg h12]
        rw [e1, e2]
        exact ⟨by trivial, a, m, c, C, by omega, hs.ret1 rfl⟩
      · skip
        refine CW_skip ?_
        refine hK7 _ _ ?_
        refine CW_seq (fun K12 hK12 => ?_)
        refine DW_s hs 9 ([eB g3 true (Blk 44 (birV bi))]) ?_
        intro w hs _
        refine DW_q hs 0 rfl (by kernel_rfl) (fun w' hw' => X_move (v := (.pointer _)) rfl) ?_
        refine DW_q hs 1 rfl (by kernel_rfl) (fun w' hw' => X_ldAH hw' rfl (by simp)) ?_
        refine DW_q hs 4 rfl (by kernel_rfl) (fun w' hw' => X_move (v := (.pointer _)) rfl) ?_
        refine DW_q hs 5 rfl (by kernel_rfl) (fun w' hw' => X_ldAH hw' rfl (by simp)) ?_
        refine DW_l 2 rfl (by kernel_rfl) ?_
        refine cll (OfListing_ok bi _ ho) ?_
        rintro _ w ⟨rfl, hf⟩
        replace hs := hs.call hf
        refine WL_nil ?_
        refine ⟨.inr hs.hold, ?_⟩
        refine DW_l 3 rfl (by kernel_rfl) ?_
        refine cll (VDelete_ok g b r1 r2 t a m c (vwRead t R N (lsN bi)) C N (lsN bi) _ (hs.he _) ho (by omega)) ?_
        rintro _ w ⟨rfl, a1, m1, c1, C1, hm1, ht⟩
        replace hs := hs.turnE rfl ht
        refine WL_nil ?_
        refine ⟨.inr hs.hold, ?_⟩
        refine DW_l 6 rfl (by kernel_rfl) ?_
        refine cll (OfEntry_ok bi dd _ ho) ?_
        rintro _ w ⟨rfl, hf⟩
        replace hs := hs.call hf
        refine WL_nil ?_
        refine ⟨.inr hs.hold, ?_⟩
        refine DW_l 7 rfl (by kernel_rfl) ?_
        refine cll (VDelete_ok g b r1 r2 t a1 m1 c1 (vwRead t R N (lsN bi)) C1 (callN N (lsN bi) (⟨#[]⟩, true)) (enN bi dd) _ (hs.he _) ho (by omega)) ?_
        rintro _ w ⟨rfl, a2, m2, c2, C2, hm2, ht⟩
        replace hs := hs.turnE rfl ht
        refine WL_nil ?_
        refine ⟨.inr hs.hold, ?_⟩
        refine DW_l 8 rfl (by kernel_rfl) ?_
        refine W_bslice hs (BS.ii rfl (BS.ii rfl .nil)) rfl (by simp) ?_
        intro w g36 hs hg36 hf36
        refine WL_nil ?_
        refine ⟨.inr hs.hold, ?_⟩
        refine DW_l 9 rfl (by kernel_rfl) ?_
        refine cll (first_ok [callE (lsN bi) (⟨#[]⟩, true), callE (enN bi dd) (⟨#[]⟩, true)] (some ⟨g36, 0, none⟩) 2 2 _ (rdB hs (by simp) rfl) rfl (by omega)) ?_
        rintro _ w ⟨rfl, hf⟩
        replace hs := hs.call hf
        refine WL_nil ?_
        refine ⟨.inl rfl, ?_⟩
        refine DW_l 10 rfl (by kernel_rfl) ?_
        refine asp (.int _ _) rfl ?_
        refine WL_nil ?_
        refine ⟨.inr hs.hold, ?_⟩
        refine DW_e (by kernel_rfl) ?_
        refine hK12 _ _ ?_
        refine CW_ret ?_
        repeat (first | (with_reducible apply thenF_ret) | (with_reducible apply blockF_ret))
        try simp only [thenF, blockF, reduceIte]
        refine Post_r Tryz.results64 (.tmp rfl .nil) ?_
        try simp only [ev_tmp, ev_const, upd_ap, Nat.reduceLT, Nat.reduceEqDiff, reduceIte]
        have h12 : ¬ birCheck bi ≠ 0 := by simpa using hc12
        have h20 : ¬ L.2 ≠ 0 := by simpa using hc20
        have e1 : drV t N bi = (fstE [callE (lsN bi) (⟨#[]⟩, true), callE (enN bi dd) (⟨#[]⟩, true)], callN (callN N (lsN bi) (⟨#[]⟩, true)) (enN bi dd) (⟨#[]⟩, true)) := by unfold drV; rw [if_neg h12, hL, if_neg h20, if_neg (by simp at hc24; omega)]
        have e2 : drR t R N bi = vwRead t R N (lsN bi) := by unfold drR; rw [if_neg h12]
        rw [e1, e2]
        exact ⟨by trivial, a2, m2, c2, C2, by omega, hs.ret1 rfl⟩
end Go.Proofs.YtkbldndbofbkcaaGreatDoor
/- Births compared; replevinlaw28.known. -/
namespace Go.Proofs.YtkbldndbofbkcaaGreatDoor
open Go Go.RowKit
attribute [local irreducible] WL CW DW Ret RW
deriving instance DecidableEq for Bir
theorem VNewT (b : Nat) (t : Tr) (w0 : World) (hb : (eT b t).holds w0) :
    Ret Tryz.prog 22 #[.pointer (some ⟨b, 0, none⟩)] w0 fun v w' => ∃ g r1 r2, v = .pointer (some ⟨g, 0, none⟩) ∧ Turned (eT b t) (eV g b r1 r2 t none 0 0 [] [] []) w0 w' := by
  refine (VNew_ok b t w0 hb).mono ?_
  rintro v w' ⟨g, r1, r2, rfl, h1, h2, h3, h4, hf⟩
  refine ⟨g, r1, r2, rfl, rfl, h1, hf.mono (by simp), fun x hx => ?_⟩
  obtain ⟨e, he, hx⟩ := eL_mem.1 hx
  simp at he
  rcases he with rfl | rfl | rfl | rfl | rfl
  · simp [eB] at hx; subst hx; exact .inr h2
  · simp [eM] at hx; subst hx; exact .inr h3
  · simp [eR, Value.ownBlock] at hx
  · simp [eM] at hx; subst hx; exact .inr h4
  · exact .inl hx
theorem bir_stood : Tryz.prog.stoodInHeld 44 = false := by kernel_rfl
theorem bir_guard : Tryz.prog.eqGuardType Tryz.prog.depth 44 = false := by kernel_rfl
theorem bytes_beq2 (a b : ByteArray) : (a == b) = decide (a = b) := by
  rw [Bool.eq_iff_iff]; simp [Go.MapKept.bytes_beq]
theorem equalIn_bir (n : Nat) (a b : Bir) (w : World) : (Op.equalIn (n + 2) 44 (.agg (birV a).toArray) (.agg (birV b).toArray)).run Tryz.prog w = .ok (a.maker == b.maker && a.num == b.num) w := by
  have hp : ∀ w, (program).run Tryz.prog w = .ok Tryz.prog w := fun _ => rfl
  rw [Op.equalIn]
  simp only [Sem.run_bind, run_underlying Tryz.underlying44, Result.andThen_ok, hp, bir_stood]
  have hg : ∀ (T : TypeId) (cs : Array Value) (k : Nat) (v : Value) (w : World), (isAgg T).run Tryz.prog w = .ok false w → cs[k]? = some v → (part T cs k).run Tryz.prog w = .ok v w := by
    intro T cs k v w h1 h2
    simp [part, h1, h2]
  have ek := fun x y w => eq_int Tryz.underlying3 n .i64 x y w
  have eo := fun x y w => eq_str Tryz.underlying42 n x y w
  simp only [Bool.false_eq_true, if_false]
  simp [birV, part, AgE.h, ek, eo]
  by_cases h1 : (a.maker == b.maker) = true <;> by_cases h2 : a.num = b.num <;> simp_all
theorem bir_eq (a b : Bir) : (a.maker == b.maker && a.num == b.num) = decide (a = b) := by
  rw [Bool.eq_iff_iff]
  cases a; cases b
  simp [Go.MapKept.bytes_beq]
theorem equal_bir (a b : Bir) (w : World) : (Op.equal 44 (.agg (birV a).toArray) (.agg (birV b).toArray)).run Tryz.prog w = .ok (decide (a = b)) w := by
  rw [← bir_eq]; exact equalIn_bir 9998 a b w
section
variable {N d : Nat} {f : Fr} {w : World} {T B : TypeId} {p : String} {aft : Array Edge} {x y : Operand} {a b : Bir}
theorem X_eqBir (hx : ev N f x = .agg (birV a).toArray) (hy : ev N f y = .agg (birV b).toArray) : Ex Tryz.prog N f w ⟨some d, .binOp .eql 44 x y B, T, p, aft, none⟩ (.bool (decide (a = b))) w := by
  have hp : ∀ w, (program).run Tryz.prog w = .ok Tryz.prog w := fun _ => rfl
  simp [Ex, execOp, hx, hy, eqGuard, binOp, equal_bir, hp, bir_guard]
theorem X_neBir (hx : ev N f x = .agg (birV a).toArray) (hy : ev N f y = .agg (birV b).toArray) : Ex Tryz.prog N f w ⟨some d, .binOp .neq 44 x y B, T, p, aft, none⟩ (.bool (decide (a ≠ b))) w := by
  have hp : ∀ w, (program).run Tryz.prog w = .ok Tryz.prog w := fun _ => rfl
  simp [Ex, execOp, hx, hy, eqGuard, binOp, equal_bir, hp, bir_guard]
end
/-! ### known -/
abbrev sA : ByteArray := ⟨#[97]⟩
abbrev sB : ByteArray := ⟨#[98]⟩
def d31 : Bir := ⟨⟨#[51]⟩, 1⟩
def d00 : Bir := ⟨⟨#[]⟩, 0⟩
def d32 : Bir := ⟨⟨#[51]⟩, 2⟩
def d40 : Bir := ⟨⟨#[52]⟩, 0⟩
def nA : Chs := (mkV .nil [] d31 d00).2
def nB : Chs := (insV .nil nA d31 sB d32).2
def nC : Chs := (insV .nil nB d31 sA d40).2
def nD : Chs := (rmV .nil nC d31 sA).2
def nE : Chs := (rmV .nil nD d31 sB).2
def nF : Chs := (drV .nil nE d31).2
theorem q1 : (mkV .nil [] d31 d00).1 = 0 := by decide +kernel
theorem q2 : (insV .nil nA d31 sB d32).1 = 0 := by decide +kernel
theorem q3 : (insV .nil nB d31 sA d40).1 = 0 := by decide +kernel
theorem q4 : (if birCheck d31 ≠ 0 then ([], birCheck d31) else dLs .nil nC d31) = ([sA, sB], 0) := by decide +kernel
theorem q5 : fndT .nil nC d31 sB = (d32, 0) := by decide +kernel
theorem q6 : upT .nil nC d31 = (d00, 0) := by decide +kernel
theorem q7 : ckNs [sA, sB] = 0 := by decide +kernel
theorem q8 : nsEnc [sA, sB] = [2, 1, 97, 1, 98] := by decide +kernel
theorem q9 : drV .nil nC d31 = (17, nC) := by decide +kernel
theorem q10 : (rmV .nil nC d31 sA).1 = (d40, 0) := by decide +kernel
theorem q11 : (rmV .nil nD d31 sB).1 = (d32, 0) := by decide +kernel
theorem q12 : (drV .nil nE d31).1 = 0 := by decide +kernel
theorem q13 : (if birCheck d31 ≠ 0 then ([], birCheck d31) else dLs .nil nF d31) = ([], 16) := by decide +kernel
theorem z1 : (vwGet .nil nA (lsN d31)).1.size ≤ 100 := by decide +kernel
theorem z2 : (vwGet .nil nB (lsN d31)).1.size ≤ 100 := by decide +kernel
theorem z3 : (vwGet .nil nC (lsN d31)).1.size ≤ 100 := by decide +kernel
theorem z4 : (vwGet .nil nC (enN d31 sB)).1.size ≤ 100 := by decide +kernel
theorem z5 : (vwGet .nil nC (enN d31 dd)).1.size ≤ 100 := by decide +kernel
theorem z6 : (vwGet .nil nC (enN d31 sA)).1.size ≤ 100 := by decide +kernel
theorem z7 : (vwGet .nil nD (lsN d31)).1.size ≤ 100 := by decide +kernel
theorem z8 : (vwGet .nil nD (enN d31 sB)).1.size ≤ 100 := by decide +kernel
theorem z9 : (vwGet .nil nE (lsN d31)).1.size ≤ 100 := by decide +kernel
theorem z10 : (vwGet .nil nF (lsN d31)).1.size ≤ 100 := by decide +kernel
theorem sd31 : d31.maker.size ≤ 4611686018427387904 := by decide
theorem sd00 : d00.maker.size ≤ 4611686018427387904 := by decide
theorem sd32 : d32.maker.size ≤ 4611686018427387904 := by decide
theorem sd40 : d40.maker.size ≤ 4611686018427387904 := by decide
set_option maxRecDepth 20000 in
theorem known28_ok (w0 : World) : Ret Tryz.prog 35 #[] w0 fun v w' => v = .bool true ∧ Fm [] w0 w' := by
  have hs := St.init w0 []
  refine Ret_enter Tryz.func35 rfl Tryz.ntmps35 (by simp) ?_
  refine CW_seq (fun K1 hK1 => ?_)
  refine CW_region ?_
  refine asp (.bool _) rfl ?_
  refine WL_nil ?_
  refine hK1 _ _ ?_
  refine CW_seq (fun K2 hK2 => ?_)
  refine CW_region ?_
  refine cll (SNew_ok _) ?_
  rintro _ w ⟨b, rfl, hT, hb, hf⟩
  replace hs := hs.callNew hf hT (by intro x hx; simp [eT, Tr.fp] at hx; subst hx; exact hb)
  refine cll (VNewT b .nil _ (hs.he _)) ?_
  rintro _ w ⟨g, r1, r2, rfl, ht⟩
  replace hs := hs.turnE rfl ht
  refine asp (.pointer _) rfl ?_
  refine WL_nil ?_
  refine hK2 _ _ ?_
  refine CW_seq (fun K3 hK3 => ?_)
  refine CW_region ?_
  refine WL_v (v := .agg (birV d31).toArray) (X_build rfl rfl) ?_
  refine WL_v (v := .agg (birV d00).toArray) (X_build rfl rfl) ?_
  refine alc hs ?_
  intro w g2 hs hg2 hf2
  refine alc hs ?_
  intro w g3 hs hg3 hf3
  refine sto (.agg (birV d31).toArray) (vl := birV d31) hs rfl rfl rfl rfl (by simp) rfl ?_
  intro w hs _
  replace hs : St w0 _ w (_ :: eB g2 true (Blk 44 (birV d31)) :: _) := hs
  refine sto (.agg (birV d00).toArray) (vl := birV d00) hs rfl rfl rfl rfl (by simp) rfl ?_
  intro w hs _
  replace hs : St w0 _ w (eB g3 true (Blk 44 (birV d00)) :: _) := hs
  refine WL_nil ?_
  refine hK3 _ _ ?_
  refine CW_seq (fun K4 hK4 => ?_)
  refine CW_region ?_
  refine WL_v (v := .agg (birV d32).toArray) (X_build rfl rfl) ?_
  refine WL_v (v := .agg (birV d40).toArray) (X_build rfl rfl) ?_
  refine alc hs ?_
  intro w g4 hs hg4 hf4
  refine alc hs ?_
  intro w g5 hs hg5 hf5
  refine sto (.agg (birV d32).toArray) (vl := birV d32) hs rfl rfl rfl rfl (by simp) rfl ?_
  intro w hs _
  replace hs : St w0 _ w (_ :: eB g4 true (Blk 44 (birV d32)) :: _) := hs
  refine sto (.agg (birV d40).toArray) (vl := birV d40) hs rfl rfl rfl rfl (by simp) rfl ?_
  intro w hs _
  replace hs : St w0 _ w (eB g5 true (Blk 44 (birV d40)) :: _) := hs
  refine WL_nil ?_
  refine hK4 _ _ ?_
  refine CW_seq (fun K5 hK5 => ?_)
  refine CW_seq (fun K6 hK6 => ?_)
  refine CW_region ?_
  refine mvp (.pointer _) rfl ?_
  refine eqnP rfl rfl ?_
  refine mvp (.bool _) rfl ?_
  refine WL_gyb (g := 29) rfl (by decide) rfl (rfl) ?_
  refine mvp (.pointer _) rfl ?_
  refine WL_gy (g := 29) rfl (by decide) rfl ?_
  refine ldA hs rfl (by simp) ?_
  refine WL_gy (g := 29) rfl (by decide) rfl ?_
  refine ldA hs rfl (by simp) ?_
  refine WL_gy (g := 29) rfl (by decide) rfl ?_
  refine cll (Make_ok g b r1 r2 .nil none 0 0 [] [] [] d31 d00 _ (hs.he _) sd31 sd00 (by omega)) ?_
  rintro _ w ⟨rfl, a1, m1, c1, C1, hm1, ht⟩
  replace hs := hs.turnE rfl ht
  rw [show (mkV .nil [] d31 d00).2 = nA from rfl] at hs
  generalize mkR .nil [] [] d31 d00 = R1 at hs
  rw [q1]
  refine WL_gy (g := 29) rfl (by decide) rfl ?_
  refine neqW rfl rfl ?_
  first | refine pkT rfl rfl ?_ | refine pkF rfl rfl ?_
  refine mvp (.bool _) rfl ?_
  refine WL_gyb (g := 36) rfl (by decide) rfl (rfl) ?_
  refine mvp (.pointer _) rfl ?_
  refine WL_gy (g := 36) rfl (by decide) rfl ?_
  refine ldA hs rfl (by simp) ?_
  refine WL_gy (g := 36) rfl (by decide) rfl ?_
  refine ldA hs rfl (by simp) ?_
  refine WL_gy (g := 36) rfl (by decide) rfl ?_
  refine cll (DInsert_ok g b r1 r2 .nil a1 m1 c1 R1 C1 nA d31 sB d32 _ (hs.he _) sd31 sd32 (by have := z1; omega) (by omega)) ?_
  rintro _ w ⟨rfl, a2, m2, c2, C2, hm2, ht⟩
  replace hs := hs.turnE rfl ht
  rw [show (insV .nil nA d31 sB d32).2 = nB from rfl] at hs
  generalize insR .nil R1 nA d31 sB d32 = R2 at hs
  rw [q2]
  refine WL_gy (g := 36) rfl (by decide) rfl ?_
  refine neqW rfl rfl ?_
  first | refine pkT rfl rfl ?_ | refine pkF rfl rfl ?_
  refine mvp (.bool _) rfl ?_
  refine WL_gyb (g := 43) rfl (by decide) rfl (rfl) ?_
  refine mvp (.pointer _) rfl ?_
  refine WL_gy (g := 43) rfl (by decide) rfl ?_
  refine ldA hs rfl (by simp) ?_
  refine WL_gy (g := 43) rfl (by decide) rfl ?_
  refine ldA hs rfl (by simp) ?_
  refine WL_gy (g := 43) rfl (by decide) rfl ?_
  refine cll (DInsert_ok g b r1 r2 .nil a2 m2 c2 R2 C2 nB d31 sA d40 _ (hs.he _) sd31 sd40 (by have := z2; omega) (by omega)) ?_
  rintro _ w ⟨rfl, a3, m3, c3, C3, hm3, ht⟩
  replace hs := hs.turnE rfl ht
  rw [show (insV .nil nB d31 sA d40).2 = nC from rfl] at hs
  generalize insR .nil R2 nB d31 sA d40 = R3 at hs
  rw [q3]
  refine WL_gy (g := 43) rfl (by decide) rfl ?_
  refine neqW rfl rfl ?_
  first | refine pkT rfl rfl ?_ | refine pkF rfl rfl ?_
  refine WL_nil ?_
  refine hK6 _ _ ?_
  refine CW_condF rfl (rfl) ?_
  refine CW_skip ?_
  refine hK5 _ _ ?_
  refine CW_seq (fun K7 hK7 => ?_)
  refine CW_region ?_
  refine mvp (.pointer _) rfl ?_
  refine ldA hs rfl (by simp) ?_
  refine cll (List_ok g b r1 r2 .nil a3 m3 c3 R3 C3 nC d31 _ (hs.he _) sd31 (by have := z3; omega)) ?_
  rintro _ w ⟨la, ln, lc, rfl, hln, ht⟩
  replace hs := hs.turn2 ht rfl rfl rfl
  rw [q4] at hs hln
  rw [q4]
  replace hln : ln = 2 := hln
  generalize (if birCheck d31 ≠ 0 then R3 else vwRead .nil R3 nC (lsN d31)) = R4 at hs
  refine mvp (.tuple _) rfl ?_
  refine ext rfl rfl ?_
  refine ext rfl rfl ?_
  refine asp (.slice _ _ _) rfl ?_
  refine asp (.int _ _) rfl ?_
  refine WL_nil ?_
  refine hK7 _ _ ?_
  refine CW_seq (fun K8 hK8 => ?_)
  refine CW_region ?_
  refine mvp (.pointer _) rfl ?_
  refine ldA hs rfl (by simp) ?_
  refine cll (Find_ok g b r1 r2 .nil a3 m3 c3 R4 C3 nC d31 sB _ (hs.he _) sd31 (by have := z4; omega)) ?_
  rintro _ w ⟨rfl, ht⟩
  replace hs := hs.turnE rfl ht
  rw [q5]
  generalize (if fstE [birCheck d31, ckN sB] ≠ 0 then R4 else vwRead .nil R4 nC (enN d31 sB)) = R5 at hs
  refine mvp (.tuple _) rfl ?_
  refine ext rfl rfl ?_
  refine ext rfl rfl ?_
  refine alc hs ?_
  intro w g8 hs hg8 hf8
  refine sto (.agg (birV d32).toArray) (vl := birV d32) hs rfl rfl rfl rfl (by simp) rfl ?_
  intro w hs _
  replace hs : St w0 _ w (eB g8 true (Blk 44 (birV d32)) :: _) := hs
  refine asp (.int _ _) rfl ?_
  refine WL_nil ?_
  refine hK8 _ _ ?_
  refine CW_seq (fun K9 hK9 => ?_)
  refine CW_region ?_
  refine mvp (.pointer _) rfl ?_
  refine ldA hs rfl (by simp) ?_
  refine cll (Up_ok g b r1 r2 .nil a3 m3 c3 R5 C3 nC d31 _ (hs.he _) sd31 (by have := z5; omega)) ?_
  rintro _ w ⟨rfl, ht⟩
  replace hs := hs.turnE rfl ht
  rw [q6]
  generalize (if birCheck d31 ≠ 0 then R5 else vwRead .nil R5 nC (enN d31 dd)) = R6 at hs
  refine mvp (.tuple _) rfl ?_
  refine ext rfl rfl ?_
  refine ext rfl rfl ?_
  refine alc hs ?_
  intro w g10 hs hg10 hf10
  refine sto (.agg (birV d00).toArray) (vl := birV d00) hs rfl rfl rfl rfl (by simp) rfl ?_
  intro w hs _
  replace hs : St w0 _ w (eB g10 true (Blk 44 (birV d00)) :: _) := hs
  refine asp (.int _ _) rfl ?_
  refine WL_nil ?_
  refine hK9 _ _ ?_
  refine CW_seq (fun K10 hK10 => ?_)
  refine CW_region ?_
  refine W_bslice hs (BS.ss rfl (BS.ss rfl .nil)) rfl (by simp) ?_
  intro w g69 hs hg69 hf69
  refine cll (EncNames_ok [sA, sB] (some ⟨g69, 0, none⟩) 2 2 _ (rdB hs (by simp) rfl) rfl (by omega)) ?_
  rintro _ w ⟨rfl, hf⟩
  replace hs := hs.call hf
  rw [if_pos q7, q7, q8]
  refine mvp (.tuple _) rfl ?_
  refine ext rfl rfl ?_
  refine ext rfl rfl ?_
  refine asp (.string _) rfl ?_
  refine asp (.int _ _) rfl ?_
  refine WL_nil ?_
  refine hK10 _ _ ?_
  refine CW_seq (fun K11 hK11 => ?_)
  refine CW_seq (fun K12 hK12 => ?_)
  refine CW_region ?_
  refine mvp (.slice _ _ _) rfl ?_
  refine W_bslice hs (BS.ss rfl (BS.ss rfl .nil)) rfl (by simp) ?_
  intro w g74 hs hg74 hf74
  refine cll (Same_ok [sA, sB] [sA, sB] la (some ⟨g74, 0, none⟩) ln lc 2 2 _ (hs.rd (a := la)) hln (rdB hs (by simp) rfl) rfl (by omega)) ?_
  rintro _ w ⟨rfl, hf⟩
  replace hs := hs.call hf
  rw [decide_eq_true (rfl : [sA, sB] = [sA, sB])]
  refine notW rfl ?_
  refine mvp (.bool _) rfl ?_
  refine WL_gyb (g := 77) rfl (by decide) rfl (rfl) ?_
  refine mvp (.int _ _) rfl ?_
  refine WL_gy (g := 77) rfl (by decide) rfl ?_
  refine neqW rfl rfl ?_
  first | refine pkT rfl rfl ?_ | refine pkF rfl rfl ?_
  refine mvp (.bool _) rfl ?_
  refine WL_gyb (g := 81) rfl (by decide) rfl (rfl) ?_
  refine ldA hs rfl (by simp) ?_
  refine WL_gy (g := 81) rfl (by decide) rfl ?_
  refine ldA hs rfl (by simp) ?_
  refine WL_gy (g := 81) rfl (by decide) rfl ?_
  refine WL_v (X_neBir (a := d32) (b := d32) rfl rfl) ?_
  rw [decide_eq_false (fun q => q rfl)]
  first | refine pkT rfl rfl ?_ | refine pkF rfl rfl ?_
  refine mvp (.bool _) rfl ?_
  refine WL_gyb (g := 86) rfl (by decide) rfl (rfl) ?_
  refine mvp (.int _ _) rfl ?_
  refine WL_gy (g := 86) rfl (by decide) rfl ?_
  refine neqW rfl rfl ?_
  first | refine pkT rfl rfl ?_ | refine pkF rfl rfl ?_
  refine mvp (.bool _) rfl ?_
  refine WL_gyb (g := 90) rfl (by decide) rfl (rfl) ?_
  refine ldA hs rfl (by simp) ?_
  refine WL_gy (g := 90) rfl (by decide) rfl ?_
  refine ldA hs rfl (by simp) ?_
  refine WL_gy (g := 90) rfl (by decide) rfl ?_
  refine WL_v (X_neBir (a := d00) (b := d00) rfl rfl) ?_
  rw [decide_eq_false (fun q => q rfl)]
  first | refine pkT rfl rfl ?_ | refine pkF rfl rfl ?_
  refine mvp (.bool _) rfl ?_
  refine WL_gyb (g := 95) rfl (by decide) rfl (rfl) ?_
  refine mvp (.int _ _) rfl ?_
  refine WL_gy (g := 95) rfl (by decide) rfl ?_
  refine neqW rfl rfl ?_
  first | refine pkT rfl rfl ?_ | refine pkF rfl rfl ?_
  refine mvp (.bool _) rfl ?_
  refine WL_gyb (g := 99) rfl (by decide) rfl (rfl) ?_
  refine mvp (.string _) rfl ?_
  refine WL_gy (g := 99) rfl (by decide) rfl ?_
  refine neS rfl rfl ?_
  first | refine pkT rfl rfl ?_ | refine pkF rfl rfl ?_
  refine mvp (.bool _) rfl ?_
  refine WL_gyb (g := 103) rfl (by decide) rfl ((by rfl)) ?_
  refine mvp (.int _ _) rfl ?_
  refine WL_gy (g := 103) rfl (by decide) rfl ?_
  refine neqW rfl rfl ?_
  first | refine pkT rfl rfl ?_ | refine pkF rfl rfl ?_
  refine mvp (.bool _) rfl ?_
  refine WL_gyb (g := 107) rfl (by decide) rfl (rfl) ?_
  refine mvp (.pointer _) rfl ?_
  refine WL_gy (g := 107) rfl (by decide) rfl ?_
  refine ldA hs rfl (by simp) ?_
  refine WL_gy (g := 107) rfl (by decide) rfl ?_
  refine cll (Drop_ok g b r1 r2 .nil a3 m3 c3 R6 C3 nC d31 _ (hs.he _) sd31 (by have := z3; omega) (by omega)) ?_
  rintro _ w ⟨rfl, a4, m4, c4, C4, hm4, ht⟩
  replace hs := hs.turnE rfl ht
  rw [q9] at hs
  rw [q9]
  generalize drR .nil R6 nC d31 = R7 at hs
  refine WL_gy (g := 107) rfl (by decide) rfl ?_
  refine neqW rfl rfl ?_
  first | refine pkT rfl rfl ?_ | refine pkF rfl rfl ?_
  refine WL_nil ?_
  refine hK12 _ _ ?_
  refine CW_condF rfl (rfl) ?_
  refine CW_skip ?_
  refine hK11 _ _ ?_
  refine CW_seq (fun K13 hK13 => ?_)
  refine CW_region ?_
  refine mvp (.pointer _) rfl ?_
  refine ldA hs rfl (by simp) ?_
  refine cll (DRemove_ok g b r1 r2 .nil a4 m4 c4 R7 C4 nC d31 sA _ (hs.he _) sd31 (by have := z3; omega) (by have := z6; omega) (by omega)) ?_
  rintro _ w ⟨rfl, a5, m5, c5, C5, hm5, ht⟩
  replace hs := hs.turnE rfl ht
  rw [show (rmV .nil nC d31 sA).2 = nD from rfl] at hs
  rw [q10]
  generalize rmR .nil R7 nC d31 sA = R8 at hs
  refine mvp (.tuple _) rfl ?_
  refine ext rfl rfl ?_
  refine ext rfl rfl ?_
  refine alc hs ?_
  intro w g14 hs hg14 hf14
  refine sto (.agg (birV d40).toArray) (vl := birV d40) hs rfl rfl rfl rfl (by simp) rfl ?_
  intro w hs _
  replace hs : St w0 _ w (eB g14 true (Blk 44 (birV d40)) :: _) := hs
  refine asp (.int _ _) rfl ?_
  refine WL_nil ?_
  refine hK13 _ _ ?_
  refine CW_seq (fun K14 hK14 => ?_)
  refine CW_region ?_
  refine mvp (.pointer _) rfl ?_
  refine ldA hs rfl (by simp) ?_
  refine cll (DRemove_ok g b r1 r2 .nil a5 m5 c5 R8 C5 nD d31 sB _ (hs.he _) sd31 (by have := z7; omega) (by have := z8; omega) (by omega)) ?_
  rintro _ w ⟨rfl, a6, m6, c6, C6, hm6, ht⟩
  replace hs := hs.turnE rfl ht
  rw [show (rmV .nil nD d31 sB).2 = nE from rfl] at hs
  rw [q11]
  generalize rmR .nil R8 nD d31 sB = R9 at hs
  refine mvp (.tuple _) rfl ?_
  refine ext rfl rfl ?_
  refine ext rfl rfl ?_
  refine alc hs ?_
  intro w g16 hs hg16 hf16
  refine sto (.agg (birV d32).toArray) (vl := birV d32) hs rfl rfl rfl rfl (by simp) rfl ?_
  intro w hs _
  replace hs : St w0 _ w (eB g16 true (Blk 44 (birV d32)) :: _) := hs
  refine asp (.int _ _) rfl ?_
  refine WL_nil ?_
  refine hK14 _ _ ?_
  refine CW_seq (fun K15 hK15 => ?_)
  refine CW_region ?_
  refine mvp (.pointer _) rfl ?_
  refine ldA hs rfl (by simp) ?_
  refine cll (Drop_ok g b r1 r2 .nil a6 m6 c6 R9 C6 nE d31 _ (hs.he _) sd31 (by have := z9; omega) (by omega)) ?_
  rintro _ w ⟨rfl, a7, m7, c7, C7, hm7, ht⟩
  replace hs := hs.turnE rfl ht
  rw [show (drV .nil nE d31).2 = nF from rfl] at hs
  rw [q12]
  generalize drR .nil R9 nE d31 = R10 at hs
  refine asp (.int _ _) rfl ?_
  refine WL_nil ?_
  refine hK15 _ _ ?_
  refine CW_seq (fun K16 hK16 => ?_)
  refine CW_region ?_
  refine mvp (.pointer _) rfl ?_
  refine ldA hs rfl (by simp) ?_
  refine cll (List_ok g b r1 r2 .nil a7 m7 c7 R10 C7 nF d31 _ (hs.he _) sd31 (by have := z10; omega)) ?_
  rintro _ w ⟨la2, ln2, lc2, rfl, hln2, ht⟩
  replace hs := hs.turn2 ht rfl rfl rfl
  rw [q13]
  refine mvp (.tuple _) rfl ?_
  refine ext rfl rfl ?_
  refine ext rfl rfl ?_
  refine asp (.slice _ _ _) rfl ?_
  refine asp (.int _ _) rfl ?_
  refine WL_nil ?_
  refine hK16 _ _ ?_
  refine CW_seq (fun K17 hK17 => ?_)
  refine CW_region ?_
  refine ldA hs rfl (by simp) ?_
  refine ldA hs rfl (by simp) ?_
  refine WL_v (X_eqBir (a := d40) (b := d40) rfl rfl) ?_
  rw [decide_eq_true rfl]
  refine mvp (.bool _) rfl ?_
  refine WL_gyb (g := 137) rfl (by decide) rfl (rfl) ?_
  refine mvp (.int _ _) rfl ?_
  refine WL_gy (g := 137) rfl (by decide) rfl ?_
  refine eqlW rfl rfl ?_
  first | refine pkT rfl rfl ?_ | refine pkF rfl rfl ?_
  refine mvp (.bool _) rfl ?_
  refine WL_gyb (g := 141) rfl (by decide) rfl (rfl) ?_
  refine mvp (.int _ _) rfl ?_
  refine WL_gy (g := 141) rfl (by decide) rfl ?_
  refine eqlW rfl rfl ?_
  first | refine pkT rfl rfl ?_ | refine pkF rfl rfl ?_
  refine mvp (.bool _) rfl ?_
  refine WL_gyb (g := 145) rfl (by decide) rfl (rfl) ?_
  refine mvp (.int _ _) rfl ?_
  refine WL_gy (g := 145) rfl (by decide) rfl ?_
  refine eqlW rfl rfl ?_
  first | refine pkT rfl rfl ?_ | refine pkF rfl rfl ?_
  refine mvp (.bool _) rfl ?_
  refine WL_gyb (g := 149) rfl (by decide) rfl (rfl) ?_
  refine mvp (.int _ _) rfl ?_
  refine WL_gy (g := 149) rfl (by decide) rfl ?_
  refine eqlW rfl rfl ?_
  first | refine pkT rfl rfl ?_ | refine pkF rfl rfl ?_
  refine asp (.bool _) rfl ?_
  refine WL_nil ?_
  refine hK17 _ _ ?_
  refine CW_ret ?_
  repeat (first | (with_reducible apply thenF_ret) | (with_reducible apply blockF_ret))
  try simp only [thenF, blockF, reduceIte]
  refine Post_r Tryz.results35 (.tmp rfl .nil) ?_
  try simp only [ev_tmp, ev_const, upd_ap, Nat.reduceLT, Nat.reduceEqDiff, reduceIte]
  exact ⟨by trivial, hs.fm⟩
end Go.Proofs.YtkbldndbofbkcaaGreatDoor
/- Plain: names in order; what an insertion and a removal leave. -/
namespace Go.Proofs.YtkbldndbofbkcaaGreatDoor
open Go Go.RowKit
theorem bl_nil (x : List UInt8) : Op.bytesLess x [] = false := by cases x <;> rfl
theorem bl_cons (a b : UInt8) (x y : List UInt8) : Op.bytesLess (a :: x) (b :: y) = (decide (a < b) || (a == b && Op.bytesLess x y)) := rfl
theorem bl_irr : ∀ x : List UInt8, Op.bytesLess x x = false
  | [] => rfl
  | a :: x => by rw [bl_cons, bl_irr x]; simp
theorem bl_tr : ∀ x y z : List UInt8, Op.bytesLess x y = true → Op.bytesLess y z = true → Op.bytesLess x z = true
  | _, [], _, h, _ => by rw [bl_nil] at h; cases h
  | _, _ :: _, [], _, k => by rw [bl_nil] at k; cases k
  | [], _ :: _, _ :: _, _, _ => rfl
  | a :: x, b :: y, c :: z, h, k => by
    simp only [bl_cons, Bool.or_eq_true, decide_eq_true_eq, Bool.and_eq_true, beq_iff_eq] at h k ⊢
    rcases h with h | ⟨rfl, h⟩
    · rcases k with k | ⟨rfl, k⟩
      · exact .inl (UInt8.lt_trans h k)
      · exact .inl h
    · rcases k with k | ⟨rfl, k⟩
      · exact .inl k
      · exact .inr ⟨rfl, bl_tr x y z h k⟩
theorem bl_tot : ∀ x y : List UInt8, Op.bytesLess x y = false → x ≠ y → Op.bytesLess y x = true
  | [], [], _, h => absurd rfl h
  | _ :: _, [], _, _ => rfl
  | [], _ :: _, h, _ => by cases h
  | a :: x, b :: y, h, hn => by
    simp only [bl_cons, Bool.or_eq_false_iff, decide_eq_false_iff_not, Bool.and_eq_false_iff, beq_eq_false_iff_ne] at h
    simp only [bl_cons, Bool.or_eq_true, decide_eq_true_eq, Bool.and_eq_true, beq_iff_eq]
    by_cases e : a = b
    · subst e
      right
      refine ⟨rfl, bl_tot x y ?_ (fun q => hn (by rw [q]))⟩
      rcases h.2 with q | q
      · exact absurd rfl q
      · exact q
    · left
      have h1 := h.1
      rw [UInt8.lt_iff_toNat_lt] at h1 ⊢
      have h2 : a.toNat ≠ b.toNat := fun q => e (UInt8.toNat_inj.1 q)
      omega
theorem bls_irr (a : ByteArray) : bls a a = false := bl_irr _
theorem bls_tr {a b c : ByteArray} (h : bls a b = true) (k : bls b c = true) : bls a c = true := bl_tr _ _ _ h k
theorem bls_tot {a b : ByteArray} (h : bls a b = false) (hn : a ≠ b) : bls b a = true := bl_tot _ _ h (fun q => hn (ba_eq q))
abbrev Sbs (l : List ByteArray) : Prop := l.Pairwise (fun a b => bls a b = true)
theorem sbs_get {l : List ByteArray} (h : Sbs l) {i j : Nat} (hij : i < j) (hj : j < l.length) : bls (l[i]'(by omega)) l[j] = true := List.pairwise_iff_getElem.1 h i j (by omega) hj hij
theorem sbs_of {l : List ByteArray} (h : ∀ j (h : j + 1 < l.length), bls l[j] l[j + 1] = true) : Sbs l := by
  refine List.pairwise_iff_getElem.2 fun i j hi hj hij => ?_
  obtain ⟨k, rfl⟩ : ∃ k, j = i + 1 + k := ⟨j - (i + 1), by omega⟩
  clear hij
  induction k with
  | zero => exact h i hj
  | succ k ih => exact bls_tr (ih (by omega)) (h (i + 1 + k) hj)
theorem ckNs_iff {l : List ByteArray} : ckNs l = 0 ↔ l.length ≤ 256 ∧ (∀ x ∈ l, ckN x = 0) ∧ Sbs l :=
  ⟨fun h => let ⟨a, b, c⟩ := ckNs_0 h; ⟨a, fun x hx => by obtain ⟨j, hj, rfl⟩ := List.getElem_of_mem hx; exact b j hj, sbs_of c⟩,
    fun ⟨a, b, c⟩ => ckNs_of a (fun j h => b _ (List.getElem_mem h)) (fun j h => sbs_get c (by omega) h)⟩
theorem sbs_nd {l : List ByteArray} (h : Sbs l) : l.Nodup := h.imp (fun {a b} h q => by rw [q, bls_irr] at h; cases h)
/-- The first that is not less, from the left. -/
def lat (l : List ByteArray) (s : ByteArray) : Nat := (l.takeWhile (fun x => bls x s)).length
theorem lat_uniq : ∀ (l : List ByteArray) (s : ByteArray) (k : Nat), k ≤ l.length → (∀ a (h : a < l.length), a < k → bls l[a] s = true) → (∀ h : k < l.length, bls l[k] s = false) → lat l s = k
  | [], _, k, hk, _, _ => by simp at hk; subst hk; rfl
  | x :: l, s, 0, _, _, h2 => by
    have : bls x s = false := h2 (by simp)
    simp [lat, this]
  | x :: l, s, k + 1, hk, h1, h2 => by
    have h0 : bls x s = true := h1 0 (by simp) (by omega)
    have := lat_uniq l s k (by simpa using hk) (fun a h ha => h1 (a + 1) (by simpa using h) (by omega)) (fun h => h2 (by simpa using h))
    simp [lat, h0] at this ⊢
    exact this
theorem sb_spec {l : List ByteArray} (hl : Sbs l) (s : ByteArray) : (∀ a (h : a < l.length), a < sbAt l s → bls l[a] s = true) ∧ (∀ b (h : b < l.length), sbAt l s ≤ b → bls l[b] s = false) := by
  have key := sbI_spec l s (fun a b hab hb h => by
    rw [getD_at hb] at h
    rw [getD_at (show a < l.length by omega)]
    rcases Nat.lt_or_eq_of_le hab with q | q
    · exact bls_tr (sbs_get hl q hb) h
    · subst q; exact h) (l.length + 1) 0 l.length (by omega) (by omega) (by omega) (by omega) (by omega)
  refine ⟨fun a h ha => ?_, fun b h hb => ?_⟩
  · have := key.1 a ha
    rwa [getD_at h] at this
  · have := key.2 b hb h
    rw [getD_at h] at this
    simpa using this
theorem sb_lat {l : List ByteArray} (hl : Sbs l) (s : ByteArray) : lat l s = sbAt l s :=
  lat_uniq l s _ (sbAt_le l s) (sb_spec hl s).1 (fun h => (sb_spec hl s).2 _ h (Nat.le_refl _))
theorem lat_le (l : List ByteArray) (s : ByteArray) : lat l s ≤ l.length := (List.takeWhile_sublist _).length_le
theorem lat_lo {l : List ByteArray} (hl : Sbs l) {s x : ByteArray} (hx : x ∈ l.take (lat l s)) : bls x s = true := by
  obtain ⟨j, hj, rfl⟩ := List.getElem_of_mem hx
  rw [List.length_take] at hj
  rw [List.getElem_take]
  exact (sb_spec hl s).1 j (by omega) (by rw [← sb_lat hl]; omega)
theorem lat_hi {l : List ByteArray} (hl : Sbs l) {s x : ByteArray} (hx : x ∈ l.drop (lat l s)) : bls x s = false := by
  obtain ⟨j, hj, rfl⟩ := List.getElem_of_mem hx
  rw [List.length_drop] at hj
  rw [List.getElem_drop]
  exact (sb_spec hl s).2 _ (by omega) (by rw [← sb_lat hl]; omega)
theorem lat_mem {l : List ByteArray} (hl : Sbs l) {s : ByteArray} (h : s ∈ l) : ∃ hk : lat l s < l.length, l[lat l s] = s := by
  obtain ⟨j, hj, rfl⟩ := List.getElem_of_mem h
  have : lat l l[j] = j := lat_uniq _ _ _ (by omega) (fun a h ha => sbs_get hl ha hj) (fun _ => bls_irr _)
  exact ⟨by omega, by simp only [this]⟩
theorem sb_found {l : List ByteArray} (hl : Sbs l) (s : ByteArray) : sbFound l s = true ↔ s ∈ l := by
  unfold sbFound
  constructor
  · intro h
    simp only [Bool.and_eq_true, decide_eq_true_eq] at h
    obtain ⟨h1, h2⟩ := h
    rw [getD_at h1] at h2
    exact h2 ▸ List.getElem_mem h1
  · intro h
    obtain ⟨h1, h2⟩ := lat_mem hl h
    simp only [sb_lat hl] at h1 h2
    rw [decide_eq_true h1, getD_at h1, decide_eq_true h2]; rfl
/-- A name is put in its place. -/
abbrev lins (l : List ByteArray) (s : ByteArray) : List ByteArray := l.take (lat l s) ++ s :: l.drop (lat l s)
theorem sbs_lins {l : List ByteArray} (hl : Sbs l) {s : ByteArray} (hs : s ∉ l) : Sbs (lins l s) := by
  refine List.pairwise_append.2 ⟨hl.sublist (List.take_sublist _ _), List.pairwise_cons.2 ⟨fun x hx => ?_, hl.sublist (List.drop_sublist _ _)⟩, fun x hx y hy => ?_⟩
  · exact bls_tot (lat_hi hl hx) (fun q => hs (q ▸ List.mem_of_mem_drop hx))
  · have h1 := lat_lo hl hx
    rcases List.mem_cons.1 hy with rfl | hy
    · exact h1
    · exact bls_tr h1 (bls_tot (lat_hi hl hy) (fun q => hs (q ▸ List.mem_of_mem_drop hy)))
theorem mem_lins {l : List ByteArray} {s x : ByteArray} : x ∈ lins l s ↔ x = s ∨ x ∈ l := by
  have h : x ∈ l ↔ x ∈ l.take (lat l s) ∨ x ∈ l.drop (lat l s) := by rw [← List.mem_append, List.take_append_drop]
  rw [h]
  simp only [List.mem_append, List.mem_cons]
  constructor
  · rintro (h | h | h)
    · exact .inr (.inl h)
    · exact .inl h
    · exact .inr (.inr h)
  · rintro (h | h | h)
    · exact .inr (.inl h)
    · exact .inl h
    · exact .inr (.inr h)
theorem len_lins (l : List ByteArray) (s : ByteArray) : (lins l s).length = l.length + 1 := by
  have := lat_le l s
  simp only [List.length_append, List.length_take, List.length_cons, List.length_drop]; omega
theorem ckNs_lins {l : List ByteArray} {s : ByteArray} (h : ckNs l = 0) (hs : s ∉ l) (hc : ckN s = 0) (hn : l.length < 256) : ckNs (lins l s) = 0 := by
  obtain ⟨_, h2, h3⟩ := ckNs_iff.1 h
  refine ckNs_iff.2 ⟨by rw [len_lins]; omega, fun x hx => ?_, sbs_lins h3 hs⟩
  rcases mem_lins.1 hx with rfl | hx
  · exact hc
  · exact h2 x hx
theorem ckNs_sub {l k : List ByteArray} (h : ckNs l = 0) (hk : k.Sublist l) : ckNs k = 0 := by
  obtain ⟨h1, h2, h3⟩ := ckNs_iff.1 h
  exact ckNs_iff.2 ⟨Nat.le_trans hk.length_le h1, fun x hx => h2 x (hk.subset hx), h3.sublist hk⟩
end Go.Proofs.YtkbldndbofbkcaaGreatDoor
/- Plain: the directories that a view has; what the operations do to them. -/
namespace Go.Proofs.YtkbldndbofbkcaaGreatDoor
open Go Go.RowKit
theorem on_ls {b : Bir} (h : birCheck b = 0) : onCheckB (lsN b) = 0 := by
  obtain ⟨h1, h2, h3⟩ := birCheck_0 h
  simp [onCheckB, usOf, usT, badU, badN, okNum, h1, h2, h3, show (0 : Int) ≤ max (-1) 0 by decide]
theorem ckN_w {s : ByteArray} (h : ckN s = 0) : oWord s.data.toList = true ∧ s ≠ dd := by
  unfold ckN at h
  split at h
  · cases h
  · rename_i q
    refine ⟨?_, fun e => q (.inr (.inr e))⟩
    by_cases w : oWord s.data.toList = true
    · exact w
    · exact absurd (.inl (by simpa using w)) q
theorem dd_w : oWord dd.data.toList = true := by decide
theorem nm_w {s : ByteArray} (h : s = dd ∨ ckN s = 0) : oWord s.data.toList = true := by
  rcases h with rfl | h
  · exact dd_w
  · exact (ckN_w h).1
theorem on_en {b : Bir} {s : ByteArray} (h : birCheck b = 0) (hs : s = dd ∨ ckN s = 0) : onCheckB (enN b s) = 0 := by
  obtain ⟨h1, h2, h3⟩ := birCheck_0 h
  have h4 := nm_w hs
  simp [onCheckB, usOf, usT, badU, badN, okNum, h1, h2, h3, h4, show (0 : Int) ≤ max (-1) 0 by decide]
theorem ce_ls {b : Bir} {l : List ByteArray} (h : birCheck b = 0) (hl : ckNs l = 0) : callE (lsN b) (str (nsEnc l), false) = 0 := by
  have h1 := nsEnc_len hl
  have h2 := (ckNs_0 hl).1
  unfold callE
  rw [if_neg (by rw [on_ls h]; simp), if_neg]
  rw [str_size]; omega
theorem ce_en {b x : Bir} {s : ByteArray} (h : birCheck b = 0) (hs : s = dd ∨ ckN s = 0) (hx : birCheck x = 0) : callE (enN b s) (str (birEnc x), false) = 0 := by
  have h1 := birEnc_len hx
  unfold callE
  rw [if_neg (by rw [on_en h hs]; simp), if_neg]
  rw [str_size]; omega
theorem ce_dl {b : Bir} (h : birCheck b = 0) : callE (lsN b) (⟨#[]⟩, true) = 0 := by
  unfold callE
  rw [if_neg (by rw [on_ls h]; simp)]; rfl
theorem ce_de {b : Bir} {s : ByteArray} (h : birCheck b = 0) (hs : s = dd ∨ ckN s = 0) : callE (enN b s) (⟨#[]⟩, true) = 0 := by
  unfold callE
  rw [if_neg (by rw [on_en h hs]; simp)]; rfl
/-! ### what a view has -/
def gv (t : Tr) (N : Chs) (n : ONm) : Option ByteArray := if (vwGet t N n).2 = true then some (vwGet t N n).1 else none
theorem gv_snd (t : Tr) (N : Chs) (n : ONm) : (vwGet t N n).2 = (gv t N n).isSome := by
  unfold gv; cases (vwGet t N n).2 <;> rfl
theorem vw_set {t : Tr} {N : Chs} {n : ONm} (h : onCheckB n = 0) (c : ByteArray × Bool) : vwGet t (nset N n c) n = (c.1, !c.2) := by
  unfold vwGet; rw [if_neg (by rw [h]; simp), nget_nset, if_pos rfl]
theorem vw_ne {t : Tr} {N : Chs} {n m : ONm} (h : m ≠ n) (c : ByteArray × Bool) : vwGet t (nset N n c) m = vwGet t N m := by
  unfold vwGet; rw [nget_nset, if_neg h]
theorem gv_put {t : Tr} {N : Chs} {n : ONm} (h : onCheckB n = 0) (v : ByteArray) (m : ONm) : gv t (nset N n (v, false)) m = if m = n then some v else gv t N m := by
  unfold gv
  by_cases hm : m = n
  · subst hm; rw [vw_set h, if_pos rfl]; rfl
  · rw [if_neg hm, vw_ne hm]
theorem gv_cut {t : Tr} {N : Chs} {n : ONm} (v : ByteArray) (m : ONm) : gv t (nset N n (v, true)) m = if m = n then none else gv t N m := by
  unfold gv
  by_cases hm : m = n
  · subst hm; rw [if_pos rfl]
    by_cases h : onCheckB m = 0
    · rw [vw_set h]; rfl
    · unfold vwGet; rw [if_pos h]; rfl
  · rw [if_neg hm, vw_ne hm]
theorem dLs_gv (t : Tr) (N : Chs) (b : Bir) : dLs t N b = match gv t N (lsN b) with | none => ([], 16) | some s => dnR s.data.toList := by
  unfold dLs gv
  cases (vwGet t N (lsN b)).2 <;> rfl
theorem dTg_gv (t : Tr) (N : Chs) (b : Bir) (s : ByteArray) : dTg t N b s = match gv t N (enN b s) with | none => (⟨⟨#[]⟩, 0⟩, 8) | some s => dbR s.data.toList := by
  unfold dTg gv
  cases (vwGet t N (enN b s)).2 <;> rfl
/-- No value is longer than a value may be. -/
def Sm (t : Tr) (N : Chs) : Prop := ∀ m, (vwGet t N m).1.size ≤ 65536
theorem Sm.call {t : Tr} {N : Chs} (h : Sm t N) (n : ONm) (c : ByteArray × Bool) : Sm t (callN N n c) := by
  unfold callN
  split
  · rename_i hc
    have h2 : c.1.size ≤ 65536 := by
      unfold callE at hc
      split at hc
      · cases hc
      · split at hc
        · cases hc
        · omega
    intro m
    have h3 := h m
    unfold vwGet at h3 ⊢
    split
    · rename_i q; rw [if_pos q] at h3; exact h3
    · rename_i q
      rw [if_neg q] at h3
      rw [nget_nset]
      by_cases hm : m = n
      · rw [if_pos hm]; exact h2
      · rw [if_neg hm]; exact h3
  · exact h
theorem Sm.nil (N : Chs) (h : N = []) : Sm .nil N := by
  subst h
  intro m
  unfold vwGet
  split
  · exact Nat.zero_le _
  · exact Nat.zero_le _
/-! ### rows -/
abbrev Rws := List (ByteArray × Bir)
def nms (r : Rws) : List ByteArray := r.map (·.1)
theorem nms_get (r : Rws) (i : Nat) (h : i < (nms r).length) : (nms r)[i] = (r[i]'(by simpa [nms] using h)).1 := by simp [nms]
@[simp] theorem nms_len (r : Rws) : (nms r).length = r.length := List.length_map ..
def rlook : Rws → ByteArray → Option Bir
  | [], _ => none
  | (a, x) :: l, s => if s = a then some x else rlook l s
theorem rlook_app (a b : Rws) (s : ByteArray) : rlook (a ++ b) s = (rlook a s).or (rlook b s) := by
  induction a with
  | nil => rfl
  | cons y a ih =>
    obtain ⟨k, x⟩ := y
    simp only [List.cons_append, rlook]
    split
    · rfl
    · exact ih
theorem rlook_none {r : Rws} {s : ByteArray} : rlook r s = none ↔ s ∉ nms r := by
  induction r with
  | nil => simp [rlook, nms]
  | cons y r ih =>
    obtain ⟨k, x⟩ := y
    simp only [rlook, nms, List.map_cons, List.mem_cons]
    by_cases h : s = k
    · simp [h]
    · simp only [h, if_false, false_or]; exact ih
theorem rlook_mem {r : Rws} {s : ByteArray} {x : Bir} (h : rlook r s = some x) : (s, x) ∈ r := by
  induction r with
  | nil => cases h
  | cons y r ih =>
    obtain ⟨k, z⟩ := y
    simp only [rlook] at h
    split at h
    · rename_i e; injection h with h; subst e h; exact List.mem_cons_self
    · exact List.mem_cons_of_mem _ (ih h)
def rAt (r : Rws) (s : ByteArray) : Nat := lat (nms r) s
theorem rAt_le (r : Rws) (s : ByteArray) : rAt r s ≤ r.length := by have := lat_le (nms r) s; rw [nms_len] at this; exact this
def rIns (r : Rws) (s : ByteArray) (x : Bir) : Rws := r.take (rAt r s) ++ (s, x) :: r.drop (rAt r s)
def rDel (r : Rws) (s : ByteArray) : Rws := r.take (rAt r s) ++ r.drop (rAt r s + 1)
def rSet (r : Rws) (s : ByteArray) (x : Bir) : Rws := r.take (rAt r s) ++ (s, x) :: r.drop (rAt r s + 1)
theorem nms_rIns (r : Rws) (s : ByteArray) (x : Bir) : nms (rIns r s x) = lins (nms r) s := by
  unfold nms rIns rAt lins nms
  rw [List.map_append, List.map_cons, List.map_take, List.map_drop]
theorem len_rIns (r : Rws) (s : ByteArray) (x : Bir) : (rIns r s x).length = r.length + 1 := by
  rw [← nms_len, nms_rIns, len_lins, nms_len]
theorem rlook_rIns {r : Rws} {s : ByteArray} (x : Bir) (h : rlook r s = none) (q : ByteArray) : rlook (rIns r s x) q = if q = s then some x else rlook r q := by
  have h1 : rlook (r.take (rAt r s)) s = none := rlook_none.2 fun m => rlook_none.1 h (by
    obtain ⟨y, hy, e⟩ := List.mem_map.1 m
    exact List.mem_map.2 ⟨y, List.mem_of_mem_take hy, e⟩)
  unfold rIns
  rw [rlook_app, rlook]
  by_cases hq : q = s
  · subst hq; rw [h1, if_pos rfl, if_pos rfl]; rfl
  · rw [if_neg hq, if_neg hq, ← rlook_app, List.take_append_drop]
theorem r_split {r : Rws} {s : ByteArray} {x : Bir} (h : Sbs (nms r)) (hs : rlook r s = some x) : ∃ a b, r = a ++ (s, x) :: b ∧ a.length = rAt r s ∧ s ∉ nms a ∧ s ∉ nms b := by
  have hm : s ∈ nms r := by
    by_cases q : s ∈ nms r
    · exact q
    · rw [rlook_none.2 q] at hs; cases hs
  obtain ⟨hk, he⟩ := lat_mem h hm
  have hk2 : rAt r s < r.length := by unfold rAt; simpa using hk
  have e1 : r = r.take (rAt r s) ++ r[rAt r s] :: r.drop (rAt r s + 1) := by rw [← List.drop_eq_getElem_cons hk2, List.take_append_drop]
  have e2 : (r[rAt r s]).1 = s := by
    have := nms_get r _ hk
    rw [he] at this
    exact this.symm
  obtain ⟨a, ha⟩ : ∃ a, r.take (rAt r s) = a := ⟨_, rfl⟩
  obtain ⟨b, hb⟩ : ∃ b, r.drop (rAt r s + 1) = b := ⟨_, rfl⟩
  obtain ⟨y, hy⟩ : ∃ y, r[rAt r s] = y := ⟨_, rfl⟩
  rw [ha, hb, hy] at e1
  rw [hy] at e2
  have hal : a.length = rAt r s := by rw [← ha, List.length_take]; omega
  obtain ⟨k, z⟩ := y
  simp only at e2
  subst e2
  have hnd := sbs_nd h
  have hna : k ∉ nms a ∧ k ∉ nms b := by
    rw [e1] at hnd
    unfold nms at hnd
    rw [List.map_append, List.map_cons] at hnd
    obtain ⟨_, h2, h3⟩ := List.nodup_append.1 hnd
    exact ⟨fun q => h3 _ q _ List.mem_cons_self rfl, (List.nodup_cons.1 h2).1⟩
  have : z = x := by
    rw [e1, rlook_app, rlook_none.2 hna.1, rlook, if_pos rfl] at hs
    injection hs
  subst this
  exact ⟨a, b, e1, hal, hna⟩
theorem rDel_eq {r a b : Rws} {s : ByteArray} {x : Bir} (e : r = a ++ (s, x) :: b) (hl : a.length = rAt r s) : rDel r s = a ++ b := by
  unfold rDel
  rw [← hl, e]
  simp
theorem rSet_eq {r a b : Rws} {s : ByteArray} {x : Bir} (y : Bir) (e : r = a ++ (s, x) :: b) (hl : a.length = rAt r s) : rSet r s y = a ++ (s, y) :: b := by
  unfold rSet
  rw [← hl, e]
  simp
theorem nms_rDel (r : Rws) (s : ByteArray) : nms (rDel r s) = (nms r).eraseIdx (lat (nms r) s) := by
  rw [List.eraseIdx_eq_take_drop_succ]
  unfold nms rDel rAt nms
  rw [List.map_append, List.map_take, List.map_drop]
theorem rlook_rDel {r : Rws} {s : ByteArray} {x : Bir} (h : Sbs (nms r)) (hs : rlook r s = some x) (q : ByteArray) : rlook (rDel r s) q = if q = s then none else rlook r q := by
  obtain ⟨a, b, e, hl, ha, hb⟩ := r_split h hs
  rw [rDel_eq e hl, rlook_app]
  by_cases hq : q = s
  · subst hq; rw [rlook_none.2 ha, rlook_none.2 hb, if_pos rfl]; rfl
  · rw [if_neg hq, e, rlook_app, rlook, if_neg hq]
theorem nms_rSet {r : Rws} {s : ByteArray} {x : Bir} (y : Bir) (h : Sbs (nms r)) (hs : rlook r s = some x) : nms (rSet r s y) = nms r := by
  obtain ⟨a, b, e, hl, _⟩ := r_split h hs
  rw [rSet_eq y e hl, e]
  unfold nms
  simp
theorem rlook_rSet {r : Rws} {s : ByteArray} {x : Bir} (y : Bir) (h : Sbs (nms r)) (hs : rlook r s = some x) (q : ByteArray) : rlook (rSet r s y) q = if q = s then some y else rlook r q := by
  obtain ⟨a, b, e, hl, ha, hb⟩ := r_split h hs
  rw [rSet_eq y e hl, rlook_app, rlook]
  by_cases hq : q = s
  · subst hq; rw [rlook_none.2 ha, if_pos rfl, if_pos rfl]; rfl
  · rw [if_neg hq, if_neg hq, e, rlook_app, rlook, if_neg hq]
/-! ### directories -/
structure Dr where
  birth : Bir
  par : Bir
  rows : Rws
abbrev Ds := List Dr
def dFind : Ds → Bir → Option Dr
  | [], _ => none
  | D :: w, b => if D.birth = b then some D else dFind w b
def dUpd : Ds → Bir → (Dr → Dr) → Ds
  | [], _, _ => []
  | D :: w, b, f => if D.birth = b then f D :: w else D :: dUpd w b f
def dDel : Ds → Bir → Ds
  | [], _ => []
  | D :: w, b => if D.birth = b then w else D :: dDel w b
theorem dFind_some {w : Ds} {b : Bir} {D : Dr} (h : dFind w b = some D) : D ∈ w ∧ D.birth = b := by
  induction w with
  | nil => cases h
  | cons E w ih =>
    rw [dFind] at h
    split at h
    · rename_i e; injection h with h; subst h; exact ⟨List.mem_cons_self, e⟩
    · exact ⟨List.mem_cons_of_mem _ (ih h).1, (ih h).2⟩
theorem dFind_none {w : Ds} {b : Bir} : dFind w b = none ↔ b ∉ w.map (·.birth) := by
  induction w with
  | nil => simp [dFind]
  | cons E w ih =>
    rw [dFind, List.map_cons, List.mem_cons]
    by_cases h : E.birth = b
    · simp [h]
    · rw [if_neg h, ih]
      exact ⟨fun q => fun h' => h'.elim (fun e => h e.symm) q, fun q h' => q (.inr h')⟩
theorem dFind_mem {w : Ds} (nd : (w.map (·.birth)).Nodup) {D : Dr} (h : D ∈ w) : dFind w D.birth = some D := by
  induction w with
  | nil => cases h
  | cons E w ih =>
    rw [List.map_cons, List.nodup_cons] at nd
    rw [dFind]
    rcases List.mem_cons.1 h with rfl | h
    · rw [if_pos rfl]
    · rw [if_neg (fun q => nd.1 (by rw [q]; exact List.mem_map_of_mem h)), ih nd.2 h]
theorem dFind_upd (w : Ds) (d b : Bir) {f : Dr → Dr} (hf : ∀ D, (f D).birth = D.birth) : dFind (dUpd w d f) b = if b = d then (dFind w d).map f else dFind w b := by
  induction w with
  | nil => simp [dUpd, dFind]
  | cons E w ih =>
    rw [dUpd]
    by_cases h : E.birth = d
    · subst h
      rw [if_pos rfl, dFind, hf, dFind, dFind, if_pos rfl]
      by_cases hb : b = E.birth
      · subst hb; rw [if_pos rfl, if_pos rfl]; rfl
      · rw [if_neg (fun q => hb q.symm), if_neg hb, if_neg (fun q => hb q.symm)]
    · rw [if_neg h, dFind, ih, dFind, dFind, if_neg h]
      by_cases hb : b = d
      · subst hb; rw [if_neg h, if_pos rfl, if_pos rfl]
      · rw [if_neg hb, if_neg hb]
theorem dUpd_births (w : Ds) (d : Bir) {f : Dr → Dr} (hf : ∀ D, (f D).birth = D.birth) : (dUpd w d f).map (·.birth) = w.map (·.birth) := by
  induction w with
  | nil => rfl
  | cons E w ih =>
    rw [dUpd]
    split
    · rw [List.map_cons, List.map_cons, hf]
    · rw [List.map_cons, List.map_cons, ih]
theorem dUpd_mem {w : Ds} {d : Bir} {f : Dr → Dr} {D : Dr} (h : D ∈ dUpd w d f) : D ∈ w ∨ ∃ E, dFind w d = some E ∧ D = f E := by
  induction w with
  | nil => cases h
  | cons E w ih =>
    rw [dUpd] at h
    rw [dFind]
    split at h
    · rename_i e
      rw [if_pos e]
      rcases List.mem_cons.1 h with rfl | h
      · exact .inr ⟨E, rfl, rfl⟩
      · exact .inl (List.mem_cons_of_mem _ h)
    · rename_i e
      rw [if_neg e]
      rcases List.mem_cons.1 h with rfl | h
      · exact .inl List.mem_cons_self
      · rcases ih h with h | h
        · exact .inl (List.mem_cons_of_mem _ h)
        · exact .inr h
theorem dDel_sub (w : Ds) (d : Bir) : (dDel w d).Sublist w := by
  induction w with
  | nil => exact .slnil
  | cons E w ih =>
    rw [dDel]
    split
    · exact List.sublist_cons_self _ _
    · exact ih.cons_cons _
theorem dFind_del {w : Ds} (nd : (w.map (·.birth)).Nodup) (d b : Bir) : dFind (dDel w d) b = if b = d then none else dFind w b := by
  induction w with
  | nil => simp [dDel, dFind]
  | cons E w ih =>
    rw [List.map_cons, List.nodup_cons] at nd
    rw [dDel]
    by_cases h : E.birth = d
    · subst h
      rw [if_pos rfl, dFind]
      by_cases hb : b = E.birth
      · subst hb; rw [if_pos rfl, dFind_none.2 nd.1]
      · rw [if_neg hb, if_neg (fun q => hb q.symm)]
    · rw [if_neg h, dFind, ih nd.2, dFind]
      by_cases hb : b = d
      · subst hb; rw [if_neg h, if_pos rfl, if_pos rfl]
      · rw [if_neg hb, if_neg hb]
theorem dFind_app (w : Ds) (E : Dr) (b : Bir) : dFind (w ++ [E]) b = (dFind w b).or (if E.birth = b then some E else none) := by
  induction w with
  | nil => simp [dFind]
  | cons D w ih =>
    rw [List.cons_append, dFind, ih, dFind]
    split <;> rfl
def exE (w : Ds) (b : Bir) (s : ByteArray) : Option Bir := (dFind w b).bind fun D => if s = dd then some D.par else rlook D.rows s
/-- What a view has is what the directories say. -/
structure Sim (G : ONm → Option ByteArray) (w : Ds) : Prop where
  ls : ∀ b, birCheck b = 0 → G (lsN b) = (dFind w b).map fun D => str (nsEnc (nms D.rows))
  en : ∀ b s, birCheck b = 0 → (s = dd ∨ ckN s = 0) → G (enN b s) = (exE w b s).map fun x => str (birEnc x)
  ok : ∀ D ∈ w, birCheck D.birth = 0 ∧ birCheck D.par = 0 ∧ ckNs (nms D.rows) = 0 ∧ ∀ r ∈ D.rows, birCheck r.2 = 0
  nd : (w.map (·.birth)).Nodup
theorem exE_ok {G : ONm → Option ByteArray} {w : Ds} (h : Sim G w) {b x : Bir} {s : ByteArray} (hx : exE w b s = some x) : birCheck x = 0 := by
  unfold exE at hx
  cases hD : dFind w b with
  | none => rw [hD] at hx; cases hx
  | some D =>
    rw [hD] at hx
    obtain ⟨_, h2, _, h4⟩ := h.ok D (dFind_some hD).1
    replace hx : (if s = dd then some D.par else rlook D.rows s) = some x := hx
    split at hx
    · injection hx with hx; subst hx; exact h2
    · exact h4 _ (rlook_mem hx)
theorem Sim.dls {t : Tr} {N : Chs} {w : Ds} (h : Sim (gv t N) w) {b : Bir} (hb : birCheck b = 0) : dLs t N b = match dFind w b with | none => ([], 16) | some D => (nms D.rows, 0) := by
  rw [dLs_gv, h.ls b hb]
  cases hD : dFind w b with
  | none => rfl
  | some D =>
    have := (h.ok D (dFind_some hD).1).2.2.1
    show dnR (str (nsEnc (nms D.rows))).data.toList = _
    rw [data_str, dnR_enc this]
theorem Sim.dtg {t : Tr} {N : Chs} {w : Ds} (h : Sim (gv t N) w) {b : Bir} {s : ByteArray} (hb : birCheck b = 0) (hs : s = dd ∨ ckN s = 0) : dTg t N b s = match exE w b s with | none => (⟨⟨#[]⟩, 0⟩, 8) | some x => (x, 0) := by
  rw [dTg_gv, h.en b s hb hs]
  cases hx : exE w b s with
  | none => rfl
  | some x =>
    show dbR (str (birEnc x)).data.toList = _
    rw [data_str, dbR_enc (exE_ok h hx)]
theorem lsN_inj {b d : Bir} : lsN b = lsN d ↔ b = d := by
  constructor
  · intro h
    injection h with _ h1 h2
    cases b; cases d; simp_all
  · rintro rfl; rfl
theorem enN_inj {b d : Bir} {s q : ByteArray} : enN b s = enN d q ↔ b = d ∧ s = q := by
  constructor
  · intro h
    injection h with _ h1 h2 _ h4
    cases b; cases d; simp_all
  · rintro ⟨rfl, rfl⟩; rfl
theorem ls_ne_en {b d : Bir} {s : ByteArray} : lsN b ≠ enN d s := fun h => by injection h with h; cases h
/-- One directory turns. -/
theorem Sim.turn {G G' : ONm → Option ByteArray} {w w' : Ds} (h : Sim G w) (d : Bir) (hl : ∀ b, b ≠ d → G' (lsN b) = G (lsN b)) (he : ∀ b s, b ≠ d → G' (enN b s) = G (enN b s)) (hf : ∀ b, b ≠ d → dFind w' b = dFind w b)
    (h1 : G' (lsN d) = (dFind w' d).map fun D => str (nsEnc (nms D.rows))) (h2 : ∀ s, s = dd ∨ ckN s = 0 → G' (enN d s) = (exE w' d s).map fun x => str (birEnc x))
    (ok : ∀ D ∈ w', birCheck D.birth = 0 ∧ birCheck D.par = 0 ∧ ckNs (nms D.rows) = 0 ∧ ∀ r ∈ D.rows, birCheck r.2 = 0) (nd : (w'.map (·.birth)).Nodup) : Sim G' w' := by
  refine ⟨fun b hb => ?_, fun b s hb hs => ?_, ok, nd⟩
  · by_cases e : b = d
    · subst e; exact h1
    · rw [hl b e, hf b e]; exact h.ls b hb
  · by_cases e : b = d
    · subst e; exact h2 s hs
    · rw [he b s e, h.en b s hb hs]; unfold exE; rw [hf b e]
theorem fst2 (a b : Int) : fstE [a, b] = if a ≠ 0 then a else if b ≠ 0 then b else 0 := rfl
theorem fst3 (a b c : Int) : fstE [a, b, c] = if a ≠ 0 then a else if b ≠ 0 then b else if c ≠ 0 then c else 0 := rfl
/-! ### the operations -/
def rMake (w : Ds) (d p : Bir) : Ds × Int :=
  if birCheck d ≠ 0 then (w, birCheck d) else if birCheck p ≠ 0 then (w, birCheck p) else if (dFind w d).isSome = true then (w, 13) else (w ++ [⟨d, p, []⟩], 0)
def rDrop (w : Ds) (d : Bir) : Ds × Int :=
  if birCheck d ≠ 0 then (w, birCheck d) else match dFind w d with
  | none => (w, 16)
  | some D => if 0 < D.rows.length then (w, 17) else (dDel w d, 0)
def rTarget (w : Ds) (d : Bir) (s : ByteArray) : Bir × Int :=
  if birCheck d ≠ 0 then (⟨⟨#[]⟩, 0⟩, birCheck d) else if ckN s ≠ 0 then (⟨⟨#[]⟩, 0⟩, 12) else match (dFind w d).bind fun D => rlook D.rows s with
  | none => (⟨⟨#[]⟩, 0⟩, 8)
  | some x => (x, 0)
def rUp (w : Ds) (d : Bir) : Bir × Int :=
  if birCheck d ≠ 0 then (⟨⟨#[]⟩, 0⟩, birCheck d) else match dFind w d with
  | none => (⟨⟨#[]⟩, 0⟩, 8)
  | some D => (D.par, 0)
def rInsert (w : Ds) (d : Bir) (s : ByteArray) (x : Bir) : Ds × Int :=
  if birCheck d ≠ 0 then (w, birCheck d) else if ckN s ≠ 0 then (w, 12) else if birCheck x ≠ 0 then (w, birCheck x) else match dFind w d with
  | none => (w, 16)
  | some D => if (rlook D.rows s).isSome = true then (w, 13) else if 256 ≤ D.rows.length then (w, 9) else (dUpd w d fun D => ⟨D.birth, D.par, rIns D.rows s x⟩, 0)
def rRemove (w : Ds) (d : Bir) (s : ByteArray) : Ds × Bir × Int :=
  if birCheck d ≠ 0 then (w, ⟨⟨#[]⟩, 0⟩, birCheck d) else if ckN s ≠ 0 then (w, ⟨⟨#[]⟩, 0⟩, 12) else match dFind w d with
  | none => (w, ⟨⟨#[]⟩, 0⟩, 16)
  | some D => match rlook D.rows s with
    | none => (w, ⟨⟨#[]⟩, 0⟩, 8)
    | some x => (dUpd w d fun D => ⟨D.birth, D.par, rDel D.rows s⟩, x, 0)
theorem ckN_12 {s : ByteArray} (h : ckN s ≠ 0) : ckN s = 12 := by unfold ckN at h ⊢; split <;> simp_all
theorem gvls {t : Tr} {N : Chs} {b d : Bir} (hb : b ≠ d) (hd : onCheckB (lsN d) = 0) (v : ByteArray) : gv t (nset N (lsN d) (v, false)) (lsN b) = gv t N (lsN b) := by
  rw [gv_put hd, if_neg (fun q => hb (lsN_inj.1 q))]
theorem ins_sim {t : Tr} {N : Chs} {w : Ds} (h : Sim (gv t N) w) (d : Bir) (s : ByteArray) (x : Bir) :
    (insV t N d s x).1 = (rInsert w d s x).2 ∧ Sim (gv t (insV t N d s x).2) (rInsert w d s x).1 ∧ ((insV t N d s x).1 ≠ 0 → (insV t N d s x).2 = N) := by
  unfold insV rInsert
  rw [fst3]
  by_cases hd : birCheck d ≠ 0
  · rw [if_pos hd, if_pos hd, if_pos hd]; exact ⟨rfl, h, fun _ => rfl⟩
  rw [if_neg hd, if_neg hd]
  by_cases hs : ckN s ≠ 0
  · rw [if_pos hs, if_pos hs, if_pos hs]; exact ⟨ckN_12 hs, h, fun _ => rfl⟩
  rw [if_neg hs, if_neg hs]
  by_cases hx : birCheck x ≠ 0
  · rw [if_pos hx, if_pos hx, if_pos hx]; exact ⟨rfl, h, fun _ => rfl⟩
  rw [if_neg hx, if_neg hx, if_neg (by simp)]
  replace hd : birCheck d = 0 := by simpa using hd
  replace hs : ckN s = 0 := by simpa using hs
  replace hx : birCheck x = 0 := by simpa using hx
  have hdl := h.dls hd
  unfold chE
  cases hD : dFind w d with
  | none =>
    rw [hD] at hdl
    rw [hdl]
    exact ⟨rfl, h, fun _ => rfl⟩
  | some D =>
    rw [hD] at hdl
    rw [hdl]
    simp only
    obtain ⟨_, hp, hc, hr⟩ := h.ok D (dFind_some hD).1
    have hen : gv t N (enN d s) = (rlook D.rows s).map fun x => str (birEnc x) := by
      rw [h.en d s hd (.inr hs)]
      unfold exE
      rw [hD]
      show Option.map _ (if s = dd then _ else _) = _
      rw [if_neg (ckN_w hs).2]
    have hsrt := (ckNs_iff.1 hc).2.2
    rw [if_neg (show ¬ (0 : Int) ≠ 0 by simp)]
    unfold insF
    rw [gv_snd, hen, Option.isSome_map]
    cases hL : rlook D.rows s with
    | some y => exact ⟨rfl, h, fun _ => rfl⟩
    | none =>
      have hni := rlook_none.1 hL
      have hnf : ¬ sbFound (nms D.rows) s = true := fun q => hni ((sb_found hsrt s).1 q)
      simp only [Option.isSome_none, Bool.false_eq_true, if_false]
      rw [if_neg hnf, nms_len]
      by_cases hn : 256 ≤ D.rows.length
      · rw [if_pos hn, if_pos hn]; exact ⟨rfl, h, fun _ => rfl⟩
      rw [if_neg hn, if_neg hn, ← sb_lat hsrt]
      have hck := ckNs_lins hc hni hs (by rw [nms_len]; omega)
      simp only [ne_eq, not_true_eq_false, if_false, hck, ce_ls hd hck]
      have e1 : ptE d s x = 0 := by unfold ptE; rw [if_neg (by rw [hx]; simp), ce_en hd (.inr hs) hx]
      have e2 : ptN (callN N (lsN d) (str (nsEnc (lins (nms D.rows) s)), false)) d s x = nset (nset N (lsN d) (str (nsEnc (lins (nms D.rows) s)), false)) (enN d s) (str (birEnc x), false) := by
        unfold ptN callN; rw [if_neg (by rw [hx]; simp), ce_en hd (.inr hs) hx, ce_ls hd hck, if_pos rfl, if_pos rfl]
      rw [e1, e2]
      refine ⟨rfl, ?_, fun q => absurd rfl q⟩
      have hg : ∀ m, gv t (nset (nset N (lsN d) (str (nsEnc (lins (nms D.rows) s)), false)) (enN d s) (str (birEnc x), false)) m = if m = enN d s then some (str (birEnc x)) else if m = lsN d then some (str (nsEnc (lins (nms D.rows) s))) else gv t N m := fun m => by
        rw [gv_put (on_en hd (.inr hs)), gv_put (on_ls hd)]
      have hu := fun b => dFind_upd w d b (f := fun D : Dr => (⟨D.birth, D.par, rIns D.rows s x⟩ : Dr)) (fun _ => rfl)
      have hbs := dUpd_births w d (f := fun D : Dr => (⟨D.birth, D.par, rIns D.rows s x⟩ : Dr)) (fun _ => rfl)
      have hfd : dFind (dUpd w d fun D => ⟨D.birth, D.par, rIns D.rows s x⟩) d = some ⟨D.birth, D.par, rIns D.rows s x⟩ := by rw [hu, if_pos rfl, hD]; rfl
      refine h.turn d (fun b hb => ?_) (fun b q hb => ?_) (fun b hb => ?_) ?_ (fun q hq => ?_) (fun E hE => ?_) ?_
      · rw [hg, if_neg ls_ne_en, if_neg (fun q => hb (lsN_inj.1 q))]
      · rw [hg, if_neg (fun e => hb (enN_inj.1 e).1), if_neg (show ¬ enN b q = lsN d from fun e => ls_ne_en e.symm)]
      · rw [hu, if_neg hb]
      · rw [hg, if_neg ls_ne_en, if_pos rfl, hfd, Option.map_some, nms_rIns]
      · rw [hg, if_neg (show ¬ enN d q = lsN d from fun e => ls_ne_en e.symm)]
        unfold exE
        rw [hfd]
        show _ = Option.map _ (if q = dd then some D.par else rlook (rIns D.rows s x) q)
        rw [rlook_rIns x hL]
        have h0 := h.en d q hd hq
        unfold exE at h0
        rw [hD] at h0
        replace h0 : gv t N (enN d q) = Option.map (fun x => str (birEnc x)) (if q = dd then some D.par else rlook D.rows q) := h0
        by_cases e : q = s
        · subst e; rw [if_pos rfl, if_neg (ckN_w hs).2, if_pos rfl]; rfl
        · rw [if_neg (fun e' => e (enN_inj.1 e').2), if_neg e, h0]
      · rcases dUpd_mem hE with hE | ⟨E', hE', rfl⟩
        · exact h.ok E hE
        · rw [hD] at hE'; injection hE' with hE'; subst hE'
          refine ⟨(h.ok D (dFind_some hD).1).1, hp, by rw [nms_rIns]; exact hck, fun r hr' => ?_⟩
          unfold rIns at hr'
          rcases List.mem_append.1 hr' with q | q
          · exact hr r (List.mem_of_mem_take q)
          · rcases List.mem_cons.1 q with rfl | q
            · exact hx
            · exact hr r (List.mem_of_mem_drop q)
      · rw [hbs]; exact h.nd
theorem rem_sim {t : Tr} {N : Chs} {w : Ds} (h : Sim (gv t N) w) (d : Bir) (s : ByteArray) :
    (rmV t N d s).1 = (rRemove w d s).2 ∧ Sim (gv t (rmV t N d s).2) (rRemove w d s).1 ∧ ((rmV t N d s).1.2 ≠ 0 → (rmV t N d s).2 = N) := by
  unfold rmV rRemove
  rw [fst2]
  by_cases hd : birCheck d ≠ 0
  · rw [if_pos hd, if_pos hd, if_pos hd]; exact ⟨rfl, h, fun _ => rfl⟩
  rw [if_neg hd, if_neg hd]
  by_cases hs : ckN s ≠ 0
  · rw [if_pos hs, if_pos hs, if_pos hs]; exact ⟨by rw [ckN_12 hs], h, fun _ => rfl⟩
  rw [if_neg hs, if_neg hs, if_neg (by simp)]
  replace hd : birCheck d = 0 := by simpa using hd
  replace hs : ckN s = 0 := by simpa using hs
  have hdl := h.dls hd
  have hdt := h.dtg hd (.inr hs)
  unfold chE
  cases hD : dFind w d with
  | none =>
    rw [hD] at hdl
    rw [hdl]
    exact ⟨rfl, h, fun _ => rfl⟩
  | some D =>
    rw [hD] at hdl
    unfold exE at hdt
    rw [hD] at hdt
    replace hdt : dTg t N d s = match (if s = dd then some D.par else rlook D.rows s) with | none => (⟨⟨#[]⟩, 0⟩, 8) | some x => (x, 0) := hdt
    rw [if_neg (ckN_w hs).2] at hdt
    rw [hdl]
    simp only
    obtain ⟨_, hp, hc, hr⟩ := h.ok D (dFind_some hD).1
    have hsrt := (ckNs_iff.1 hc).2.2
    rw [if_neg (show ¬ (0 : Int) ≠ 0 by simp)]
    unfold remF
    cases hL : rlook D.rows s with
    | none =>
      rw [hL] at hdt
      rw [hdt]
      exact ⟨rfl, h, fun _ => rfl⟩
    | some x =>
      rw [hL] at hdt
      have hm : s ∈ nms D.rows := by
        by_cases q : s ∈ nms D.rows
        · exact q
        · rw [rlook_none.2 q] at hL; cases hL
      rw [if_pos ((sb_found hsrt s).2 hm), ← sb_lat hsrt, ← nms_rDel]
      have hck : ckNs (nms (rDel D.rows s)) = 0 := by rw [nms_rDel]; exact ckNs_sub hc (List.eraseIdx_sublist ..)
      have e0 : chW t N d s ⟨⟨#[]⟩, 0⟩ = x := by unfold chW; rw [hdl, hdt]; rfl
      have e1 : callN N (lsN d) (str (nsEnc (nms (rDel D.rows s))), false) = nset N (lsN d) (str (nsEnc (nms (rDel D.rows s))), false) := by unfold callN; rw [if_pos (ce_ls hd hck)]
      have e2 : ∀ M, callN M (enN d s) (⟨#[]⟩, true) = nset M (enN d s) (⟨#[]⟩, true) := fun M => by unfold callN; rw [if_pos (ce_de hd (.inr hs))]
      simp only [hdt, ne_eq, not_true_eq_false, if_false, hck, ce_ls hd hck, e0, e1, e2, ce_de hd (.inr hs)]
      refine ⟨trivial, ?_, fun q => q.elim⟩
      have hg : ∀ m, gv t (nset (nset N (lsN d) (str (nsEnc (nms (rDel D.rows s))), false)) (enN d s) (⟨#[]⟩, true)) m = if m = enN d s then none else if m = lsN d then some (str (nsEnc (nms (rDel D.rows s)))) else gv t N m := fun m => by
        rw [gv_cut, gv_put (on_ls hd)]
      have hu := fun b => dFind_upd w d b (f := fun D : Dr => (⟨D.birth, D.par, rDel D.rows s⟩ : Dr)) (fun _ => rfl)
      have hbs := dUpd_births w d (f := fun D : Dr => (⟨D.birth, D.par, rDel D.rows s⟩ : Dr)) (fun _ => rfl)
      have hfd : dFind (dUpd w d fun D => ⟨D.birth, D.par, rDel D.rows s⟩) d = some ⟨D.birth, D.par, rDel D.rows s⟩ := by rw [hu, if_pos rfl, hD]; rfl
      refine h.turn d (fun b hb => ?_) (fun b q hb => ?_) (fun b hb => ?_) ?_ (fun q hq => ?_) (fun E hE => ?_) ?_
      · rw [hg, if_neg ls_ne_en, if_neg (fun q => hb (lsN_inj.1 q))]
      · rw [hg, if_neg (fun e => hb (enN_inj.1 e).1), if_neg (show ¬ enN b q = lsN d from fun e => ls_ne_en e.symm)]
      · rw [hu, if_neg hb]
      · rw [hg, if_neg ls_ne_en, if_pos rfl, hfd, Option.map_some]
      · rw [hg, if_neg (show ¬ enN d q = lsN d from fun e => ls_ne_en e.symm)]
        unfold exE
        rw [hfd]
        show _ = Option.map _ (if q = dd then some D.par else rlook (rDel D.rows s) q)
        rw [rlook_rDel hsrt hL]
        have h0 := h.en d q hd hq
        unfold exE at h0
        rw [hD] at h0
        replace h0 : gv t N (enN d q) = Option.map (fun x => str (birEnc x)) (if q = dd then some D.par else rlook D.rows q) := h0
        by_cases e : q = s
        · subst e; rw [if_pos rfl, if_neg (ckN_w hs).2, if_pos rfl]; rfl
        · rw [if_neg (fun e' => e (enN_inj.1 e').2), if_neg e, h0]
      · rcases dUpd_mem hE with hE | ⟨E', hE', rfl⟩
        · exact h.ok E hE
        · rw [hD] at hE'; injection hE' with hE'; subst hE'
          refine ⟨(h.ok D (dFind_some hD).1).1, hp, hck, fun r hr' => ?_⟩
          unfold rDel at hr'
          rcases List.mem_append.1 hr' with q | q
          · exact hr r (List.mem_of_mem_take q)
          · exact hr r (List.mem_of_mem_drop q)
      · rw [hbs]; exact h.nd
theorem make_sim {t : Tr} {N : Chs} {w : Ds} (h : Sim (gv t N) w) (d p : Bir) :
    (mkV t N d p).1 = (rMake w d p).2 ∧ Sim (gv t (mkV t N d p).2) (rMake w d p).1 ∧ ((mkV t N d p).1 ≠ 0 → (mkV t N d p).2 = N) := by
  unfold mkV rMake
  rw [fst2]
  by_cases hd : birCheck d ≠ 0
  · rw [if_pos hd, if_pos hd, if_pos hd]; exact ⟨rfl, h, fun _ => rfl⟩
  rw [if_neg hd, if_neg hd]
  by_cases hp : birCheck p ≠ 0
  · rw [if_pos hp, if_pos hp, if_pos hp]; exact ⟨rfl, h, fun _ => rfl⟩
  rw [if_neg hp, if_neg hp, if_neg (by simp)]
  replace hd : birCheck d = 0 := by simpa using hd
  replace hp : birCheck p = 0 := by simpa using hp
  rw [gv_snd, h.ls d hd, Option.isSome_map]
  by_cases hD : (dFind w d).isSome = true
  · rw [if_pos hD, if_pos hD]; exact ⟨rfl, h, fun _ => rfl⟩
  rw [if_neg hD, if_neg hD]
  replace hD : dFind w d = none := by simpa using hD
  have hck : ckNs [] = 0 := rfl
  have e1 : ptE d dd p = 0 := by unfold ptE; rw [if_neg (by rw [hp]; simp), ce_en hd (.inl rfl) hp]
  have e2 : ptN (callN N (lsN d) (str (nsEnc []), false)) d dd p = nset (nset N (lsN d) (str (nsEnc []), false)) (enN d dd) (str (birEnc p), false) := by
    unfold ptN callN; rw [if_neg (by rw [hp]; simp), ce_en hd (.inl rfl) hp, ce_ls hd hck, if_pos rfl, if_pos rfl]
  rw [e1, e2, ce_ls hd hck]
  refine ⟨rfl, ?_, fun q => absurd rfl q⟩
  have hg : ∀ m, gv t (nset (nset N (lsN d) (str (nsEnc []), false)) (enN d dd) (str (birEnc p), false)) m = if m = enN d dd then some (str (birEnc p)) else if m = lsN d then some (str (nsEnc [])) else gv t N m := fun m => by
    rw [gv_put (on_en hd (.inl rfl)), gv_put (on_ls hd)]
  have hfd : dFind (w ++ [⟨d, p, []⟩]) d = some ⟨d, p, []⟩ := by rw [dFind_app, hD, if_pos rfl]; rfl
  refine h.turn d (fun b hb => ?_) (fun b q hb => ?_) (fun b hb => ?_) ?_ (fun q hq => ?_) (fun E hE => ?_) ?_
  · rw [hg, if_neg ls_ne_en, if_neg (fun q => hb (lsN_inj.1 q))]
  · rw [hg, if_neg (fun e => hb (enN_inj.1 e).1), if_neg (show ¬ enN b q = lsN d from fun e => ls_ne_en e.symm)]
  · rw [dFind_app, if_neg (fun e => hb e.symm), Option.or_none]
  · rw [hg, if_neg ls_ne_en, if_pos rfl, hfd]; rfl
  · rw [hg, if_neg (show ¬ enN d q = lsN d from fun e => ls_ne_en e.symm)]
    unfold exE
    rw [hfd]
    show _ = Option.map _ (if q = dd then some p else none)
    have h0 := h.en d q hd hq
    unfold exE at h0
    rw [hD] at h0
    by_cases e : q = dd
    · subst e; rw [if_pos rfl, if_pos rfl]; rfl
    · rw [if_neg (fun e' => e (enN_inj.1 e').2), if_neg e, h0]; rfl
  · rcases List.mem_append.1 hE with hE | hE
    · exact h.ok E hE
    · simp at hE; subst hE
      exact ⟨hd, hp, hck, by simp⟩
  · rw [List.map_append, List.nodup_append]
    refine ⟨h.nd, by simp, fun a ha b hb q => ?_⟩
    simp at hb
    subst hb; subst q
    exact dFind_none.1 hD ha
end Go.Proofs.YtkbldndbofbkcaaGreatDoor
