/- SpaceBack: what its code does, walked. -/
import Derived.Test.YtbhjadkgeadpiaaKBack1
namespace Go.Proofs.Ytbhjadkgeadpiaa.C
open Go Go.RowKit Sx
set_option linter.unusedVariables false
set_option maxRecDepth 100000 in
set_option maxHeartbeats 1000000 in
theorem plus_bb (x bx cx : Nat) (z bz cz : Nat) (n : Nat) (w : World) (hrx : Nd.Nb w bx x) (hnx : Nd.nd x ≤ 1000) (hrz : Nd.Nb w bz z) (hnz : Nd.nd z ≤ 1000) (hn : n = max (Nd.nd x) (Nd.nd z) + 1) :
  Calls Try.prog 64 #[(.slice (some ⟨bx, 0, none⟩) ((Nd.nd x)) cx), (.slice (some ⟨bz, 0, none⟩) ((Nd.nd z)) cz)] w (Ret w (fun _ : Nat => True) (fun z' => (.slice (some ⟨z', 0, none⟩) ((Nd.nd (x + z))) n)) (fun z' => [⟨z', (Nd.dl n (x + z)).map u32, 23, true⟩])) := by
 have h00 : Nd.nd 0 = 0 := rfl
 refine enter (M := None) (L := []) (n := 56) (l := [(0, (.slice (some ⟨bx, 0, none⟩) ((Nd.nd x)) cx)), (1, (.slice (some ⟨bz, 0, none⟩) ((Nd.nd z)) cz))]) Try.func64 rfl rfl (Args.cons rfl (Args.cons rfl (Args.nil _))) (Hp.start _ _) ?_
 refine GC.seq ?_
 refine GC.region ?_
 refine GL.val (Ex.assign rfl) (by decide) ?_
 refine GL.nil ?_
 refine GE.thenN ?_
 refine GC.seq ?_
 refine GC.region ?_
 refine GL.val (Ex.move rfl) (by decide) ?_
 refine GL.val (v := (.int .i64 ((((Nd.nd x)) : Int)))) (Ex.len rfl Try.underlying36) (by decide) ?_
 refine GL.val (Ex.move rfl) (by decide) ?_
 refine GL.val (v := (.int .i64 ((((Nd.nd z)) : Int)))) (Ex.len rfl Try.underlying36) (by decide) ?_
 refine GL.val (v := (.int .i64 ((((n : Nat) : Int) - 1)))) (Ex.maxI rfl rfl (Z := ((n : Nat) : Int) - 1) (by split <;> omega)) (by decide) ?_
 refine GL.val (v := (.int .i64 (((n : Nat) : Int)))) (Ex.add rfl rfl (Z := ((n : Nat) : Int)) (by rw [w64 (by omega)]; omega)) (by decide) ?_
 refine GL.val (Ex.assign rfl) (by decide) ?_
 refine GL.nil ?_
 refine GE.thenN ?_
 refine GC.seq ?_
 refine GC.region ?_
 refine GL.val (Ex.move rfl) (by decide) ?_
 refine GL.step (Stp.makeSlice (a1 := n) (c := n) rfl rfl Try.underlying36 T.zr23 T.sz23 T.by23 rfl (Nat.le_refl _) (by omega) (by omega) (by decide)) (fun bq1 _ => ?_)
 rw [madeOne, Nd.rep_0 n (x + z)]
 refine GL.val (Ex.assign rfl) (by decide) ?_
 refine GL.nil ?_
 refine GE.thenN ?_
 refine GC.seq ?_
 refine GC.region ?_
 refine GL.val (v := (.int .u64 (((Nd.C x z 0 : Nat) : Int)))) (Ex.cast (Ex.assign rfl) (show Value.int .u64 0 = Value.int .u64 ((Nd.C x z 0 : Nat) : Int) by rw [Nd.C_zero]; rfl)) (by decide) ?_
 refine GL.nil ?_
 refine GE.thenN ?_
 refine GC.seq ?_
 refine GC.seq ?_
 refine GC.region ?_
 refine GL.val (Ex.assign rfl) (by decide) ?_
 refine GL.nil ?_
 refine GE.thenN ?_
 refine GC.block ?_
 refine GC.loop (σ := Nat) (fun i => i ≤ n) (fun i => [(0, (.slice (some ⟨bx, 0, none⟩) ((Nd.nd x)) cx)), (1, (.slice (some ⟨bz, 0, none⟩) ((Nd.nd z)) cz)), (4, (.slice none 0 0)), (5, (.int .i64 (((n : Nat) : Int)))), (6, (.slice (some ⟨bq1, 0, none⟩) n n)), (7, (.int .u64 (((Nd.C x z i : Nat) : Int)))), (8, (.int .i64 (((i : Nat) : Int))))]) (fun i => [⟨bq1, (Nd.dl n ((x + z) % Nd.Bs ^ i)).map u32, 23, true⟩]) (fun i => n - i) (0) (Nat.zero_le _) ((sub_cons rfl ((sub_cons rfl ((sub_cons rfl ((sub_cons rfl ((sub_cons rfl ((sub_cons rfl ((sub_cons rfl ((sub_nil _)))))))))))))))) (ulC ulN) (fun i hp => ?_)
 have hpi : i ≤ n := hp
 obtain ⟨f1, f2, f3, f4, f5, f6⟩ := Nd.add_facts x z i
 refine GC.seq ?_
 refine GC.seq ?_
 refine GC.region ?_
 refine GL.val (Ex.move rfl) (by decide) ?_
 refine GL.val (Ex.move rfl) (by decide) ?_
 refine GL.val (v := (.bool (decide ((((i : Nat) : Int)) < (((n : Nat) : Int)))))) (Ex.lss rfl rfl) (by decide) ?_
 refine GL.nil ?_
 refine GE.thenN ?_
 refine GC.cond rfl (fun hq2 => ?_) (fun hq2 => ?_)
 ·replace hq2 := of_decide_eq_true hq2
  refine GC.skip ?_
  refine GE.thenN ?_
  refine GC.seq ?_
  refine GC.block ?_
  refine GC.seq ?_
  refine GC.region ?_
  refine GL.val (Ex.move rfl) (by decide) ?_
  refine GL.val (Ex.assign rfl) (by decide) ?_
  refine GL.nil ?_
  refine GE.thenN ?_
  refine GC.seq ?_
  refine GC.seq ?_
  refine GC.region ?_
  refine GL.val (Ex.move rfl) (by decide) ?_
  refine GL.val (Ex.move rfl) (by decide) ?_
  refine GL.val (v := (.int .i64 ((((Nd.nd x)) : Int)))) (Ex.len rfl Try.underlying36) (by decide) ?_
  refine GL.val (v := (.bool (decide ((((i : Nat) : Int)) < ((((Nd.nd x)) : Int)))))) (Ex.lss rfl rfl) (by decide) ?_
  refine GL.nil ?_
  refine GE.thenN ?_
  refine GC.cond rfl (fun hq3 => ?_) (fun hq3 => ?_)
  ·replace hq3 := of_decide_eq_true hq3
   refine GC.region ?_
   refine GL.val (Ex.move rfl) (by decide) ?_
   refine GL.val (Ex.move rfl) (by decide) ?_
   refine GL.val (Ex.move rfl) (by decide) ?_
   refine GL.val (v := (.pointer (some ⟨bx, i, none⟩))) (Ex.cast (Ex.indexAddr rfl rfl Try.underlying36 T.sz23 (by omega) (by omega)) (by simp)) (by decide) ?_
   refine GL.val (v := (.int .u32 (((Nd.D x i : Nat) : Int)))) (Ex.loadO rfl T.ag23 (Nd.Nb.dig hrx (by omega)) (fun x => x)) (by decide) ?_
   refine GL.val (v := (.int .u64 (((Nd.D x i : Nat) : Int)))) (Ex.conv rfl Try.underlying23 Try.underlying70 (Z := ((Nd.D x i : Nat) : Int)) (wu64b (by omega))) (by decide) ?_
   refine GL.val (v := (.int .u64 ((((Nd.C x z i : Nat) : Int)) + (((Nd.D x i : Nat) : Int))))) (Ex.add rfl rfl (Z := (((Nd.C x z i : Nat) : Int)) + (((Nd.D x i : Nat) : Int))) (wu64b (by omega))) (by decide) ?_
   refine GL.val (Ex.assign rfl) (by decide) ?_
   refine GL.nil ?_
   refine GE.thenN ?_
   refine GC.seq ?_
   refine GC.seq ?_
   refine GC.region ?_
   refine GL.val (Ex.move rfl) (by decide) ?_
   refine GL.val (Ex.move rfl) (by decide) ?_
   refine GL.val (v := (.int .i64 ((((Nd.nd z)) : Int)))) (Ex.len rfl Try.underlying36) (by decide) ?_
   refine GL.val (v := (.bool (decide ((((i : Nat) : Int)) < ((((Nd.nd z)) : Int)))))) (Ex.lss rfl rfl) (by decide) ?_
   refine GL.nil ?_
   refine GE.thenN ?_
   refine GC.cond rfl (fun hq4 => ?_) (fun hq4 => ?_)
   ·replace hq4 := of_decide_eq_true hq4
    refine GC.region ?_
    refine GL.val (Ex.move rfl) (by decide) ?_
    refine GL.val (Ex.move rfl) (by decide) ?_
    refine GL.val (Ex.move rfl) (by decide) ?_
    refine GL.val (v := (.pointer (some ⟨bz, i, none⟩))) (Ex.cast (Ex.indexAddr rfl rfl Try.underlying36 T.sz23 (by omega) (by omega)) (by simp)) (by decide) ?_
    refine GL.val (v := (.int .u32 (((Nd.D z i : Nat) : Int)))) (Ex.loadO rfl T.ag23 (Nd.Nb.dig hrz (by omega)) (fun x => x)) (by decide) ?_
    refine GL.val (v := (.int .u64 (((Nd.D z i : Nat) : Int)))) (Ex.conv rfl Try.underlying23 Try.underlying70 (Z := ((Nd.D z i : Nat) : Int)) (wu64b (by omega))) (by decide) ?_
    refine GL.val (v := (.int .u64 (((((Nd.C x z i : Nat) : Int)) + (((Nd.D x i : Nat) : Int))) + (((Nd.D z i : Nat) : Int))))) (Ex.add rfl rfl (Z := ((((Nd.C x z i : Nat) : Int)) + (((Nd.D x i : Nat) : Int))) + (((Nd.D z i : Nat) : Int))) (wu64b (by omega))) (by decide) ?_
    refine GL.val (Ex.assign rfl) (by decide) ?_
    refine GL.nil ?_
    refine GE.thenN ?_
    refine GC.seq ?_
    refine GC.region ?_
    refine GL.val (Ex.move rfl) (by decide) ?_
    refine GL.val (Ex.move rfl) (by decide) ?_
    refine GL.val (Ex.move rfl) (by decide) ?_
    refine GL.val (v := (.int .u64 (((Nd.D (x + z) i : Nat) : Int)))) (Ex.bits rfl rfl (by simp) (Z := ((Nd.D (x + z) i : Nat) : Int)) (andm64 32 (by omega) (by omega) (by omega) (by omega) rfl)) (by decide) ?_
    refine GL.val (v := (.int .u32 (((Nd.D (x + z) i : Nat) : Int)))) (Ex.conv rfl Try.underlying70 Try.underlying23 (Z := ((Nd.D (x + z) i : Nat) : Int)) (wu32b (by omega))) (by decide) ?_
    refine GL.val (v := (.pointer (some ⟨bq1, i, none⟩))) (Ex.cast (Ex.indexAddr rfl rfl Try.underlying36 T.sz23 (by omega) (by omega)) (by simp)) (by decide) ?_
    refine GL.step (Stp.storeL (i := 0) (cs := (Nd.dl n ((x + z) % Nd.Bs ^ i)).map u32) (vs := [(.int .u32 (((Nd.D (x + z) i : Nat) : Int)))]) (o := i) (L1 := [⟨bq1, (Nd.dl n ((x + z) % Nd.Bs ^ (i + 1))).map u32, 23, true⟩]) rfl rfl rfl T.sz23 rfl (Nat.ble_eq_true_of_le (show i + 1 ≤ _ by rw [Nd.dl_mlen]; omega)) rfl (by rw [Nd.st_next (by omega) rfl]; rfl)) (fun _ _ => ?_)
    refine GL.nil ?_
    refine GE.thenN ?_
    refine GC.region ?_
    refine GL.val (Ex.move rfl) (by decide) ?_
    refine GL.val (v := (.int .u64 (((Nd.C x z (i + 1) : Nat) : Int)))) (Ex.shr rfl (m := 32) rfl (by decide) (Z := ((Nd.C x z (i + 1) : Nat) : Int)) (by omega)) (by decide) ?_
    refine GL.val (Ex.assign rfl) (by decide) ?_
    refine GL.nil ?_
    refine GE.blockN ?_
    refine GE.thenN ?_
    refine GC.region ?_
    refine GL.val (Ex.move rfl) (by decide) ?_
    refine GL.val (v := (.int .i64 (((i + 1 : Nat) : Int)))) (Ex.add rfl rfl (Z := ((i + 1 : Nat) : Int)) (w64 (by omega))) (by decide) ?_
    refine GL.val (Ex.assign rfl) (by decide) ?_
    refine GL.nil ?_
    refine GE.thenN ?_
    exact Head.mk (i + 1) (by omega) (by omega) ((sub_cons rfl ((sub_cons rfl ((sub_cons rfl ((sub_cons rfl ((sub_cons rfl ((sub_cons rfl ((sub_cons rfl ((sub_nil _)))))))))))))))) (ulC ulN)
   ·replace hq4 := of_decide_eq_false hq4
    have yz : Nd.D z i = 0 := Nd.D_far (by omega)
    refine GC.skip ?_
    refine GE.thenN ?_
    refine GC.seq ?_
    refine GC.region ?_
    refine GL.val (Ex.move rfl) (by decide) ?_
    refine GL.val (Ex.move rfl) (by decide) ?_
    refine GL.val (Ex.move rfl) (by decide) ?_
    refine GL.val (v := (.int .u64 (((Nd.D (x + z) i : Nat) : Int)))) (Ex.bits rfl rfl (by simp) (Z := ((Nd.D (x + z) i : Nat) : Int)) (andm64 32 (by omega) (by omega) (by omega) (by omega) rfl)) (by decide) ?_
    refine GL.val (v := (.int .u32 (((Nd.D (x + z) i : Nat) : Int)))) (Ex.conv rfl Try.underlying70 Try.underlying23 (Z := ((Nd.D (x + z) i : Nat) : Int)) (wu32b (by omega))) (by decide) ?_
    refine GL.val (v := (.pointer (some ⟨bq1, i, none⟩))) (Ex.cast (Ex.indexAddr rfl rfl Try.underlying36 T.sz23 (by omega) (by omega)) (by simp)) (by decide) ?_
    refine GL.step (Stp.storeL (i := 0) (cs := (Nd.dl n ((x + z) % Nd.Bs ^ i)).map u32) (vs := [(.int .u32 (((Nd.D (x + z) i : Nat) : Int)))]) (o := i) (L1 := [⟨bq1, (Nd.dl n ((x + z) % Nd.Bs ^ (i + 1))).map u32, 23, true⟩]) rfl rfl rfl T.sz23 rfl (Nat.ble_eq_true_of_le (show i + 1 ≤ _ by rw [Nd.dl_mlen]; omega)) rfl (by rw [Nd.st_next (by omega) rfl]; rfl)) (fun _ _ => ?_)
    refine GL.nil ?_
    refine GE.thenN ?_
    refine GC.region ?_
    refine GL.val (Ex.move rfl) (by decide) ?_
    refine GL.val (v := (.int .u64 (((Nd.C x z (i + 1) : Nat) : Int)))) (Ex.shr rfl (m := 32) rfl (by decide) (Z := ((Nd.C x z (i + 1) : Nat) : Int)) (by omega)) (by decide) ?_
    refine GL.val (Ex.assign rfl) (by decide) ?_
    refine GL.nil ?_
    refine GE.blockN ?_
    refine GE.thenN ?_
    refine GC.region ?_
    refine GL.val (Ex.move rfl) (by decide) ?_
    refine GL.val (v := (.int .i64 (((i + 1 : Nat) : Int)))) (Ex.add rfl rfl (Z := ((i + 1 : Nat) : Int)) (w64 (by omega))) (by decide) ?_
    refine GL.val (Ex.assign rfl) (by decide) ?_
    refine GL.nil ?_
    refine GE.thenN ?_
    exact Head.mk (i + 1) (by omega) (by omega) ((sub_cons rfl ((sub_cons rfl ((sub_cons rfl ((sub_cons rfl ((sub_cons rfl ((sub_cons rfl ((sub_cons rfl ((sub_nil _)))))))))))))))) (ulC ulN)
  ·replace hq3 := of_decide_eq_false hq3
   have yx : Nd.D x i = 0 := Nd.D_far (by omega)
   refine GC.skip ?_
   refine GE.thenN ?_
   refine GC.seq ?_
   refine GC.seq ?_
   refine GC.region ?_
   refine GL.val (Ex.move rfl) (by decide) ?_
   refine GL.val (Ex.move rfl) (by decide) ?_
   refine GL.val (v := (.int .i64 ((((Nd.nd z)) : Int)))) (Ex.len rfl Try.underlying36) (by decide) ?_
   refine GL.val (v := (.bool (decide ((((i : Nat) : Int)) < ((((Nd.nd z)) : Int)))))) (Ex.lss rfl rfl) (by decide) ?_
   refine GL.nil ?_
   refine GE.thenN ?_
   refine GC.cond rfl (fun hq5 => ?_) (fun hq5 => ?_)
   ·replace hq5 := of_decide_eq_true hq5
    refine GC.region ?_
    refine GL.val (Ex.move rfl) (by decide) ?_
    refine GL.val (Ex.move rfl) (by decide) ?_
    refine GL.val (Ex.move rfl) (by decide) ?_
    refine GL.val (v := (.pointer (some ⟨bz, i, none⟩))) (Ex.cast (Ex.indexAddr rfl rfl Try.underlying36 T.sz23 (by omega) (by omega)) (by simp)) (by decide) ?_
    refine GL.val (v := (.int .u32 (((Nd.D z i : Nat) : Int)))) (Ex.loadO rfl T.ag23 (Nd.Nb.dig hrz (by omega)) (fun x => x)) (by decide) ?_
    refine GL.val (v := (.int .u64 (((Nd.D z i : Nat) : Int)))) (Ex.conv rfl Try.underlying23 Try.underlying70 (Z := ((Nd.D z i : Nat) : Int)) (wu64b (by omega))) (by decide) ?_
    refine GL.val (v := (.int .u64 ((((Nd.C x z i : Nat) : Int)) + (((Nd.D z i : Nat) : Int))))) (Ex.add rfl rfl (Z := (((Nd.C x z i : Nat) : Int)) + (((Nd.D z i : Nat) : Int))) (wu64b (by omega))) (by decide) ?_
    refine GL.val (Ex.assign rfl) (by decide) ?_
    refine GL.nil ?_
    refine GE.thenN ?_
    refine GC.seq ?_
    refine GC.region ?_
    refine GL.val (Ex.move rfl) (by decide) ?_
    refine GL.val (Ex.move rfl) (by decide) ?_
    refine GL.val (Ex.move rfl) (by decide) ?_
    refine GL.val (v := (.int .u64 (((Nd.D (x + z) i : Nat) : Int)))) (Ex.bits rfl rfl (by simp) (Z := ((Nd.D (x + z) i : Nat) : Int)) (andm64 32 (by omega) (by omega) (by omega) (by omega) rfl)) (by decide) ?_
    refine GL.val (v := (.int .u32 (((Nd.D (x + z) i : Nat) : Int)))) (Ex.conv rfl Try.underlying70 Try.underlying23 (Z := ((Nd.D (x + z) i : Nat) : Int)) (wu32b (by omega))) (by decide) ?_
    refine GL.val (v := (.pointer (some ⟨bq1, i, none⟩))) (Ex.cast (Ex.indexAddr rfl rfl Try.underlying36 T.sz23 (by omega) (by omega)) (by simp)) (by decide) ?_
    refine GL.step (Stp.storeL (i := 0) (cs := (Nd.dl n ((x + z) % Nd.Bs ^ i)).map u32) (vs := [(.int .u32 (((Nd.D (x + z) i : Nat) : Int)))]) (o := i) (L1 := [⟨bq1, (Nd.dl n ((x + z) % Nd.Bs ^ (i + 1))).map u32, 23, true⟩]) rfl rfl rfl T.sz23 rfl (Nat.ble_eq_true_of_le (show i + 1 ≤ _ by rw [Nd.dl_mlen]; omega)) rfl (by rw [Nd.st_next (by omega) rfl]; rfl)) (fun _ _ => ?_)
    refine GL.nil ?_
    refine GE.thenN ?_
    refine GC.region ?_
    refine GL.val (Ex.move rfl) (by decide) ?_
    refine GL.val (v := (.int .u64 (((Nd.C x z (i + 1) : Nat) : Int)))) (Ex.shr rfl (m := 32) rfl (by decide) (Z := ((Nd.C x z (i + 1) : Nat) : Int)) (by omega)) (by decide) ?_
    refine GL.val (Ex.assign rfl) (by decide) ?_
    refine GL.nil ?_
    refine GE.blockN ?_
    refine GE.thenN ?_
    refine GC.region ?_
    refine GL.val (Ex.move rfl) (by decide) ?_
    refine GL.val (v := (.int .i64 (((i + 1 : Nat) : Int)))) (Ex.add rfl rfl (Z := ((i + 1 : Nat) : Int)) (w64 (by omega))) (by decide) ?_
    refine GL.val (Ex.assign rfl) (by decide) ?_
    refine GL.nil ?_
    refine GE.thenN ?_
    exact Head.mk (i + 1) (by omega) (by omega) ((sub_cons rfl ((sub_cons rfl ((sub_cons rfl ((sub_cons rfl ((sub_cons rfl ((sub_cons rfl ((sub_cons rfl ((sub_nil _)))))))))))))))) (ulC ulN)
   ·replace hq5 := of_decide_eq_false hq5
    have yz : Nd.D z i = 0 := Nd.D_far (by omega)
    refine GC.skip ?_
    refine GE.thenN ?_
    refine GC.seq ?_
    refine GC.region ?_
    refine GL.val (Ex.move rfl) (by decide) ?_
    refine GL.val (Ex.move rfl) (by decide) ?_
    refine GL.val (Ex.move rfl) (by decide) ?_
    refine GL.val (v := (.int .u64 (((Nd.D (x + z) i : Nat) : Int)))) (Ex.bits rfl rfl (by simp) (Z := ((Nd.D (x + z) i : Nat) : Int)) (andm64 32 (by omega) (by omega) (by omega) (by omega) rfl)) (by decide) ?_
    refine GL.val (v := (.int .u32 (((Nd.D (x + z) i : Nat) : Int)))) (Ex.conv rfl Try.underlying70 Try.underlying23 (Z := ((Nd.D (x + z) i : Nat) : Int)) (wu32b (by omega))) (by decide) ?_
    refine GL.val (v := (.pointer (some ⟨bq1, i, none⟩))) (Ex.cast (Ex.indexAddr rfl rfl Try.underlying36 T.sz23 (by omega) (by omega)) (by simp)) (by decide) ?_
    refine GL.step (Stp.storeL (i := 0) (cs := (Nd.dl n ((x + z) % Nd.Bs ^ i)).map u32) (vs := [(.int .u32 (((Nd.D (x + z) i : Nat) : Int)))]) (o := i) (L1 := [⟨bq1, (Nd.dl n ((x + z) % Nd.Bs ^ (i + 1))).map u32, 23, true⟩]) rfl rfl rfl T.sz23 rfl (Nat.ble_eq_true_of_le (show i + 1 ≤ _ by rw [Nd.dl_mlen]; omega)) rfl (by rw [Nd.st_next (by omega) rfl]; rfl)) (fun _ _ => ?_)
    refine GL.nil ?_
    refine GE.thenN ?_
    refine GC.region ?_
    refine GL.val (Ex.move rfl) (by decide) ?_
    refine GL.val (v := (.int .u64 (((Nd.C x z (i + 1) : Nat) : Int)))) (Ex.shr rfl (m := 32) rfl (by decide) (Z := ((Nd.C x z (i + 1) : Nat) : Int)) (by omega)) (by decide) ?_
    refine GL.val (Ex.assign rfl) (by decide) ?_
    refine GL.nil ?_
    refine GE.blockN ?_
    refine GE.thenN ?_
    refine GC.region ?_
    refine GL.val (Ex.move rfl) (by decide) ?_
    refine GL.val (v := (.int .i64 (((i + 1 : Nat) : Int)))) (Ex.add rfl rfl (Z := ((i + 1 : Nat) : Int)) (w64 (by omega))) (by decide) ?_
    refine GL.val (Ex.assign rfl) (by decide) ?_
    refine GL.nil ?_
    refine GE.thenN ?_
    exact Head.mk (i + 1) (by omega) (by omega) ((sub_cons rfl ((sub_cons rfl ((sub_cons rfl ((sub_cons rfl ((sub_cons rfl ((sub_cons rfl ((sub_cons rfl ((sub_nil _)))))))))))))))) (ulC ulN)
 ·replace hq2 := of_decide_eq_false hq2
  refine GC.exit ?_
  refine GE.thenE ?_
  refine GE.thenE ?_
  refine GE.blockE ?_
  refine GE.thenN ?_
  refine GC.seq ?_
  have hin : i = n := by omega
  rw [hin, Nd.mod_all (by rw [hn]; exact Nd.plus_lt)]
  refine GC.region ?_
  refine GL.val (Ex.move rfl) (by decide) ?_
  refine GL.step (Stp.callR (vs := [(.slice (some ⟨bq1, 0, none⟩) n n)]) rfl rfl T.own63 (by decide) (fun wc hw => trim_g bq1 n (x + z) wc (by omega) (by rw [hn]; exact Nd.plus_lt) (Has.cons (hw.hasOf (i := 0) rfl) (Has.nil _)))) (fun xq6 hq7 => ?_)
  refine GL.val (Ex.assign rfl) (by decide) ?_
  refine GL.nil ?_
  refine GE.thenN ?_
  refine GC.ret ?_
  refine GC.ret1 rfl (Rv.tmp rfl) (fun wN HN => ?_)
  exact HN.ret bq1 trivial rfl (ulC ulN) rfl

set_option maxRecDepth 100000 in
set_option maxHeartbeats 1000000 in
theorem plus_bn (x bx cx : Nat) (adz : Option Addr) (cz : Nat) (n : Nat) (w : World) (hrx : Nd.Nb w bx x) (hnx : Nd.nd x ≤ 1000)  (hn : n = max (Nd.nd x) (Nd.nd 0) + 1) :
  Calls Try.prog 64 #[(.slice (some ⟨bx, 0, none⟩) ((Nd.nd x)) cx), (.slice adz 0 cz)] w (Ret w (fun _ : Nat => True) (fun z' => (.slice (some ⟨z', 0, none⟩) ((Nd.nd (x + 0))) n)) (fun z' => [⟨z', (Nd.dl n (x + 0)).map u32, 23, true⟩])) := by
 have h00 : Nd.nd 0 = 0 := rfl
 refine enter (M := None) (L := []) (n := 56) (l := [(0, (.slice (some ⟨bx, 0, none⟩) ((Nd.nd x)) cx)), (1, (.slice adz 0 cz))]) Try.func64 rfl rfl (Args.cons rfl (Args.cons rfl (Args.nil _))) (Hp.start _ _) ?_
 refine GC.seq ?_
 refine GC.region ?_
 refine GL.val (Ex.assign rfl) (by decide) ?_
 refine GL.nil ?_
 refine GE.thenN ?_
 refine GC.seq ?_
 refine GC.region ?_
 refine GL.val (Ex.move rfl) (by decide) ?_
 refine GL.val (v := (.int .i64 ((((Nd.nd x)) : Int)))) (Ex.len rfl Try.underlying36) (by decide) ?_
 refine GL.val (Ex.move rfl) (by decide) ?_
 refine GL.val (v := (.int .i64 0)) (Ex.len rfl Try.underlying36) (by decide) ?_
 refine GL.val (v := (.int .i64 ((((n : Nat) : Int) - 1)))) (Ex.maxI rfl rfl (Z := ((n : Nat) : Int) - 1) (by split <;> omega)) (by decide) ?_
 refine GL.val (v := (.int .i64 (((n : Nat) : Int)))) (Ex.add rfl rfl (Z := ((n : Nat) : Int)) (by rw [w64 (by omega)]; omega)) (by decide) ?_
 refine GL.val (Ex.assign rfl) (by decide) ?_
 refine GL.nil ?_
 refine GE.thenN ?_
 refine GC.seq ?_
 refine GC.region ?_
 refine GL.val (Ex.move rfl) (by decide) ?_
 refine GL.step (Stp.makeSlice (a1 := n) (c := n) rfl rfl Try.underlying36 T.zr23 T.sz23 T.by23 rfl (Nat.le_refl _) (by omega) (by omega) (by decide)) (fun bq1 _ => ?_)
 rw [madeOne, Nd.rep_0 n (x + 0)]
 refine GL.val (Ex.assign rfl) (by decide) ?_
 refine GL.nil ?_
 refine GE.thenN ?_
 refine GC.seq ?_
 refine GC.region ?_
 refine GL.val (v := (.int .u64 (((Nd.C x 0 0 : Nat) : Int)))) (Ex.cast (Ex.assign rfl) (show Value.int .u64 0 = Value.int .u64 ((Nd.C x 0 0 : Nat) : Int) by rw [Nd.C_zero]; rfl)) (by decide) ?_
 refine GL.nil ?_
 refine GE.thenN ?_
 refine GC.seq ?_
 refine GC.seq ?_
 refine GC.region ?_
 refine GL.val (Ex.assign rfl) (by decide) ?_
 refine GL.nil ?_
 refine GE.thenN ?_
 refine GC.block ?_
 refine GC.loop (σ := Nat) (fun i => i ≤ n) (fun i => [(0, (.slice (some ⟨bx, 0, none⟩) ((Nd.nd x)) cx)), (1, (.slice adz 0 cz)), (4, (.slice none 0 0)), (5, (.int .i64 (((n : Nat) : Int)))), (6, (.slice (some ⟨bq1, 0, none⟩) n n)), (7, (.int .u64 (((Nd.C x 0 i : Nat) : Int)))), (8, (.int .i64 (((i : Nat) : Int))))]) (fun i => [⟨bq1, (Nd.dl n ((x + 0) % Nd.Bs ^ i)).map u32, 23, true⟩]) (fun i => n - i) (0) (Nat.zero_le _) ((sub_cons rfl ((sub_cons rfl ((sub_cons rfl ((sub_cons rfl ((sub_cons rfl ((sub_cons rfl ((sub_cons rfl ((sub_nil _)))))))))))))))) (ulC ulN) (fun i hp => ?_)
 have hpi : i ≤ n := hp
 obtain ⟨f1, f2, f3, f4, f5, f6⟩ := Nd.add_facts x 0 i
 have z2 : Nd.D 0 i = 0 := Nd.D_0 i
 refine GC.seq ?_
 refine GC.seq ?_
 refine GC.region ?_
 refine GL.val (Ex.move rfl) (by decide) ?_
 refine GL.val (Ex.move rfl) (by decide) ?_
 refine GL.val (v := (.bool (decide ((((i : Nat) : Int)) < (((n : Nat) : Int)))))) (Ex.lss rfl rfl) (by decide) ?_
 refine GL.nil ?_
 refine GE.thenN ?_
 refine GC.cond rfl (fun hq2 => ?_) (fun hq2 => ?_)
 ·replace hq2 := of_decide_eq_true hq2
  refine GC.skip ?_
  refine GE.thenN ?_
  refine GC.seq ?_
  refine GC.block ?_
  refine GC.seq ?_
  refine GC.region ?_
  refine GL.val (Ex.move rfl) (by decide) ?_
  refine GL.val (Ex.assign rfl) (by decide) ?_
  refine GL.nil ?_
  refine GE.thenN ?_
  refine GC.seq ?_
  refine GC.seq ?_
  refine GC.region ?_
  refine GL.val (Ex.move rfl) (by decide) ?_
  refine GL.val (Ex.move rfl) (by decide) ?_
  refine GL.val (v := (.int .i64 ((((Nd.nd x)) : Int)))) (Ex.len rfl Try.underlying36) (by decide) ?_
  refine GL.val (v := (.bool (decide ((((i : Nat) : Int)) < ((((Nd.nd x)) : Int)))))) (Ex.lss rfl rfl) (by decide) ?_
  refine GL.nil ?_
  refine GE.thenN ?_
  refine GC.cond rfl (fun hq3 => ?_) (fun hq3 => ?_)
  ·replace hq3 := of_decide_eq_true hq3
   refine GC.region ?_
   refine GL.val (Ex.move rfl) (by decide) ?_
   refine GL.val (Ex.move rfl) (by decide) ?_
   refine GL.val (Ex.move rfl) (by decide) ?_
   refine GL.val (v := (.pointer (some ⟨bx, i, none⟩))) (Ex.cast (Ex.indexAddr rfl rfl Try.underlying36 T.sz23 (by omega) (by omega)) (by simp)) (by decide) ?_
   refine GL.val (v := (.int .u32 (((Nd.D x i : Nat) : Int)))) (Ex.loadO rfl T.ag23 (Nd.Nb.dig hrx (by omega)) (fun x => x)) (by decide) ?_
   refine GL.val (v := (.int .u64 (((Nd.D x i : Nat) : Int)))) (Ex.conv rfl Try.underlying23 Try.underlying70 (Z := ((Nd.D x i : Nat) : Int)) (wu64b (by omega))) (by decide) ?_
   refine GL.val (v := (.int .u64 ((((Nd.C x 0 i : Nat) : Int)) + (((Nd.D x i : Nat) : Int))))) (Ex.add rfl rfl (Z := (((Nd.C x 0 i : Nat) : Int)) + (((Nd.D x i : Nat) : Int))) (wu64b (by omega))) (by decide) ?_
   refine GL.val (Ex.assign rfl) (by decide) ?_
   refine GL.nil ?_
   refine GE.thenN ?_
   refine GC.seq ?_
   refine GC.seq ?_
   refine GC.region ?_
   refine GL.val (Ex.move rfl) (by decide) ?_
   refine GL.val (Ex.move rfl) (by decide) ?_
   refine GL.val (v := (.int .i64 0)) (Ex.len rfl Try.underlying36) (by decide) ?_
   refine GL.val (v := (.bool false)) (Ex.cast (Ex.lss rfl rfl) (congrArg Value.bool (decide_eq_false (by omega)))) (by decide) ?_
   refine GL.nil ?_
   refine GE.thenN ?_
   refine GC.cond rfl (fun hq4 => by cases hq4) (fun _ => ?_)
   refine GC.skip ?_
   refine GE.thenN ?_
   refine GC.seq ?_
   refine GC.region ?_
   refine GL.val (Ex.move rfl) (by decide) ?_
   refine GL.val (Ex.move rfl) (by decide) ?_
   refine GL.val (Ex.move rfl) (by decide) ?_
   refine GL.val (v := (.int .u64 (((Nd.D (x + 0) i : Nat) : Int)))) (Ex.bits rfl rfl (by simp) (Z := ((Nd.D (x + 0) i : Nat) : Int)) (andm64 32 (by omega) (by omega) (by omega) (by omega) rfl)) (by decide) ?_
   refine GL.val (v := (.int .u32 (((Nd.D (x + 0) i : Nat) : Int)))) (Ex.conv rfl Try.underlying70 Try.underlying23 (Z := ((Nd.D (x + 0) i : Nat) : Int)) (wu32b (by omega))) (by decide) ?_
   refine GL.val (v := (.pointer (some ⟨bq1, i, none⟩))) (Ex.cast (Ex.indexAddr rfl rfl Try.underlying36 T.sz23 (by omega) (by omega)) (by simp)) (by decide) ?_
   refine GL.step (Stp.storeL (i := 0) (cs := (Nd.dl n ((x + 0) % Nd.Bs ^ i)).map u32) (vs := [(.int .u32 (((Nd.D (x + 0) i : Nat) : Int)))]) (o := i) (L1 := [⟨bq1, (Nd.dl n ((x + 0) % Nd.Bs ^ (i + 1))).map u32, 23, true⟩]) rfl rfl rfl T.sz23 rfl (Nat.ble_eq_true_of_le (show i + 1 ≤ _ by rw [Nd.dl_mlen]; omega)) rfl (by rw [Nd.st_next (by omega) rfl]; rfl)) (fun _ _ => ?_)
   refine GL.nil ?_
   refine GE.thenN ?_
   refine GC.region ?_
   refine GL.val (Ex.move rfl) (by decide) ?_
   refine GL.val (v := (.int .u64 (((Nd.C x 0 (i + 1) : Nat) : Int)))) (Ex.shr rfl (m := 32) rfl (by decide) (Z := ((Nd.C x 0 (i + 1) : Nat) : Int)) (by omega)) (by decide) ?_
   refine GL.val (Ex.assign rfl) (by decide) ?_
   refine GL.nil ?_
   refine GE.blockN ?_
   refine GE.thenN ?_
   refine GC.region ?_
   refine GL.val (Ex.move rfl) (by decide) ?_
   refine GL.val (v := (.int .i64 (((i + 1 : Nat) : Int)))) (Ex.add rfl rfl (Z := ((i + 1 : Nat) : Int)) (w64 (by omega))) (by decide) ?_
   refine GL.val (Ex.assign rfl) (by decide) ?_
   refine GL.nil ?_
   refine GE.thenN ?_
   exact Head.mk (i + 1) (by omega) (by omega) ((sub_cons rfl ((sub_cons rfl ((sub_cons rfl ((sub_cons rfl ((sub_cons rfl ((sub_cons rfl ((sub_cons rfl ((sub_nil _)))))))))))))))) (ulC ulN)
  ·replace hq3 := of_decide_eq_false hq3
   have yx : Nd.D x i = 0 := Nd.D_far (by omega)
   refine GC.skip ?_
   refine GE.thenN ?_
   refine GC.seq ?_
   refine GC.seq ?_
   refine GC.region ?_
   refine GL.val (Ex.move rfl) (by decide) ?_
   refine GL.val (Ex.move rfl) (by decide) ?_
   refine GL.val (v := (.int .i64 0)) (Ex.len rfl Try.underlying36) (by decide) ?_
   refine GL.val (v := (.bool false)) (Ex.cast (Ex.lss rfl rfl) (congrArg Value.bool (decide_eq_false (by omega)))) (by decide) ?_
   refine GL.nil ?_
   refine GE.thenN ?_
   refine GC.cond rfl (fun hq5 => by cases hq5) (fun _ => ?_)
   refine GC.skip ?_
   refine GE.thenN ?_
   refine GC.seq ?_
   refine GC.region ?_
   refine GL.val (Ex.move rfl) (by decide) ?_
   refine GL.val (Ex.move rfl) (by decide) ?_
   refine GL.val (Ex.move rfl) (by decide) ?_
   refine GL.val (v := (.int .u64 (((Nd.D (x + 0) i : Nat) : Int)))) (Ex.bits rfl rfl (by simp) (Z := ((Nd.D (x + 0) i : Nat) : Int)) (andm64 32 (by omega) (by omega) (by omega) (by omega) rfl)) (by decide) ?_
   refine GL.val (v := (.int .u32 (((Nd.D (x + 0) i : Nat) : Int)))) (Ex.conv rfl Try.underlying70 Try.underlying23 (Z := ((Nd.D (x + 0) i : Nat) : Int)) (wu32b (by omega))) (by decide) ?_
   refine GL.val (v := (.pointer (some ⟨bq1, i, none⟩))) (Ex.cast (Ex.indexAddr rfl rfl Try.underlying36 T.sz23 (by omega) (by omega)) (by simp)) (by decide) ?_
   refine GL.step (Stp.storeL (i := 0) (cs := (Nd.dl n ((x + 0) % Nd.Bs ^ i)).map u32) (vs := [(.int .u32 (((Nd.D (x + 0) i : Nat) : Int)))]) (o := i) (L1 := [⟨bq1, (Nd.dl n ((x + 0) % Nd.Bs ^ (i + 1))).map u32, 23, true⟩]) rfl rfl rfl T.sz23 rfl (Nat.ble_eq_true_of_le (show i + 1 ≤ _ by rw [Nd.dl_mlen]; omega)) rfl (by rw [Nd.st_next (by omega) rfl]; rfl)) (fun _ _ => ?_)
   refine GL.nil ?_
   refine GE.thenN ?_
   refine GC.region ?_
   refine GL.val (Ex.move rfl) (by decide) ?_
   refine GL.val (v := (.int .u64 (((Nd.C x 0 (i + 1) : Nat) : Int)))) (Ex.shr rfl (m := 32) rfl (by decide) (Z := ((Nd.C x 0 (i + 1) : Nat) : Int)) (by omega)) (by decide) ?_
   refine GL.val (Ex.assign rfl) (by decide) ?_
   refine GL.nil ?_
   refine GE.blockN ?_
   refine GE.thenN ?_
   refine GC.region ?_
   refine GL.val (Ex.move rfl) (by decide) ?_
   refine GL.val (v := (.int .i64 (((i + 1 : Nat) : Int)))) (Ex.add rfl rfl (Z := ((i + 1 : Nat) : Int)) (w64 (by omega))) (by decide) ?_
   refine GL.val (Ex.assign rfl) (by decide) ?_
   refine GL.nil ?_
   refine GE.thenN ?_
   exact Head.mk (i + 1) (by omega) (by omega) ((sub_cons rfl ((sub_cons rfl ((sub_cons rfl ((sub_cons rfl ((sub_cons rfl ((sub_cons rfl ((sub_cons rfl ((sub_nil _)))))))))))))))) (ulC ulN)
 ·replace hq2 := of_decide_eq_false hq2
  refine GC.exit ?_
  refine GE.thenE ?_
  refine GE.thenE ?_
  refine GE.blockE ?_
  refine GE.thenN ?_
  refine GC.seq ?_
  have hin : i = n := by omega
  rw [hin, Nd.mod_all (by rw [hn]; exact Nd.plus_lt)]
  refine GC.region ?_
  refine GL.val (Ex.move rfl) (by decide) ?_
  refine GL.step (Stp.callR (vs := [(.slice (some ⟨bq1, 0, none⟩) n n)]) rfl rfl T.own63 (by decide) (fun wc hw => trim_g bq1 n (x + 0) wc (by omega) (by rw [hn]; exact Nd.plus_lt) (Has.cons (hw.hasOf (i := 0) rfl) (Has.nil _)))) (fun xq6 hq7 => ?_)
  refine GL.val (Ex.assign rfl) (by decide) ?_
  refine GL.nil ?_
  refine GE.thenN ?_
  refine GC.ret ?_
  refine GC.ret1 rfl (Rv.tmp rfl) (fun wN HN => ?_)
  exact HN.ret bq1 trivial rfl (ulC ulN) rfl

set_option maxRecDepth 100000 in
set_option maxHeartbeats 1000000 in
theorem plus_nb (adx : Option Addr) (cx : Nat) (z bz cz : Nat) (n : Nat) (w : World)  (hrz : Nd.Nb w bz z) (hnz : Nd.nd z ≤ 1000) (hn : n = max (Nd.nd 0) (Nd.nd z) + 1) :
  Calls Try.prog 64 #[(.slice adx 0 cx), (.slice (some ⟨bz, 0, none⟩) ((Nd.nd z)) cz)] w (Ret w (fun _ : Nat => True) (fun z' => (.slice (some ⟨z', 0, none⟩) ((Nd.nd (0 + z))) n)) (fun z' => [⟨z', (Nd.dl n (0 + z)).map u32, 23, true⟩])) := by
 have h00 : Nd.nd 0 = 0 := rfl
 refine enter (M := None) (L := []) (n := 56) (l := [(0, (.slice adx 0 cx)), (1, (.slice (some ⟨bz, 0, none⟩) ((Nd.nd z)) cz))]) Try.func64 rfl rfl (Args.cons rfl (Args.cons rfl (Args.nil _))) (Hp.start _ _) ?_
 refine GC.seq ?_
 refine GC.region ?_
 refine GL.val (Ex.assign rfl) (by decide) ?_
 refine GL.nil ?_
 refine GE.thenN ?_
 refine GC.seq ?_
 refine GC.region ?_
 refine GL.val (Ex.move rfl) (by decide) ?_
 refine GL.val (v := (.int .i64 0)) (Ex.len rfl Try.underlying36) (by decide) ?_
 refine GL.val (Ex.move rfl) (by decide) ?_
 refine GL.val (v := (.int .i64 ((((Nd.nd z)) : Int)))) (Ex.len rfl Try.underlying36) (by decide) ?_
 refine GL.val (v := (.int .i64 ((((n : Nat) : Int) - 1)))) (Ex.maxI rfl rfl (Z := ((n : Nat) : Int) - 1) (by split <;> omega)) (by decide) ?_
 refine GL.val (v := (.int .i64 (((n : Nat) : Int)))) (Ex.add rfl rfl (Z := ((n : Nat) : Int)) (by rw [w64 (by omega)]; omega)) (by decide) ?_
 refine GL.val (Ex.assign rfl) (by decide) ?_
 refine GL.nil ?_
 refine GE.thenN ?_
 refine GC.seq ?_
 refine GC.region ?_
 refine GL.val (Ex.move rfl) (by decide) ?_
 refine GL.step (Stp.makeSlice (a1 := n) (c := n) rfl rfl Try.underlying36 T.zr23 T.sz23 T.by23 rfl (Nat.le_refl _) (by omega) (by omega) (by decide)) (fun bq1 _ => ?_)
 rw [madeOne, Nd.rep_0 n (0 + z)]
 refine GL.val (Ex.assign rfl) (by decide) ?_
 refine GL.nil ?_
 refine GE.thenN ?_
 refine GC.seq ?_
 refine GC.region ?_
 refine GL.val (v := (.int .u64 (((Nd.C 0 z 0 : Nat) : Int)))) (Ex.cast (Ex.assign rfl) (show Value.int .u64 0 = Value.int .u64 ((Nd.C 0 z 0 : Nat) : Int) by rw [Nd.C_zero]; rfl)) (by decide) ?_
 refine GL.nil ?_
 refine GE.thenN ?_
 refine GC.seq ?_
 refine GC.seq ?_
 refine GC.region ?_
 refine GL.val (Ex.assign rfl) (by decide) ?_
 refine GL.nil ?_
 refine GE.thenN ?_
 refine GC.block ?_
 refine GC.loop (σ := Nat) (fun i => i ≤ n) (fun i => [(0, (.slice adx 0 cx)), (1, (.slice (some ⟨bz, 0, none⟩) ((Nd.nd z)) cz)), (4, (.slice none 0 0)), (5, (.int .i64 (((n : Nat) : Int)))), (6, (.slice (some ⟨bq1, 0, none⟩) n n)), (7, (.int .u64 (((Nd.C 0 z i : Nat) : Int)))), (8, (.int .i64 (((i : Nat) : Int))))]) (fun i => [⟨bq1, (Nd.dl n ((0 + z) % Nd.Bs ^ i)).map u32, 23, true⟩]) (fun i => n - i) (0) (Nat.zero_le _) ((sub_cons rfl ((sub_cons rfl ((sub_cons rfl ((sub_cons rfl ((sub_cons rfl ((sub_cons rfl ((sub_cons rfl ((sub_nil _)))))))))))))))) (ulC ulN) (fun i hp => ?_)
 have hpi : i ≤ n := hp
 obtain ⟨f1, f2, f3, f4, f5, f6⟩ := Nd.add_facts 0 z i
 have z1 : Nd.D 0 i = 0 := Nd.D_0 i
 refine GC.seq ?_
 refine GC.seq ?_
 refine GC.region ?_
 refine GL.val (Ex.move rfl) (by decide) ?_
 refine GL.val (Ex.move rfl) (by decide) ?_
 refine GL.val (v := (.bool (decide ((((i : Nat) : Int)) < (((n : Nat) : Int)))))) (Ex.lss rfl rfl) (by decide) ?_
 refine GL.nil ?_
 refine GE.thenN ?_
 refine GC.cond rfl (fun hq2 => ?_) (fun hq2 => ?_)
 ·replace hq2 := of_decide_eq_true hq2
  refine GC.skip ?_
  refine GE.thenN ?_
  refine GC.seq ?_
  refine GC.block ?_
  refine GC.seq ?_
  refine GC.region ?_
  refine GL.val (Ex.move rfl) (by decide) ?_
  refine GL.val (Ex.assign rfl) (by decide) ?_
  refine GL.nil ?_
  refine GE.thenN ?_
  refine GC.seq ?_
  refine GC.seq ?_
  refine GC.region ?_
  refine GL.val (Ex.move rfl) (by decide) ?_
  refine GL.val (Ex.move rfl) (by decide) ?_
  refine GL.val (v := (.int .i64 0)) (Ex.len rfl Try.underlying36) (by decide) ?_
  refine GL.val (v := (.bool false)) (Ex.cast (Ex.lss rfl rfl) (congrArg Value.bool (decide_eq_false (by omega)))) (by decide) ?_
  refine GL.nil ?_
  refine GE.thenN ?_
  refine GC.cond rfl (fun hq3 => by cases hq3) (fun _ => ?_)
  refine GC.skip ?_
  refine GE.thenN ?_
  refine GC.seq ?_
  refine GC.seq ?_
  refine GC.region ?_
  refine GL.val (Ex.move rfl) (by decide) ?_
  refine GL.val (Ex.move rfl) (by decide) ?_
  refine GL.val (v := (.int .i64 ((((Nd.nd z)) : Int)))) (Ex.len rfl Try.underlying36) (by decide) ?_
  refine GL.val (v := (.bool (decide ((((i : Nat) : Int)) < ((((Nd.nd z)) : Int)))))) (Ex.lss rfl rfl) (by decide) ?_
  refine GL.nil ?_
  refine GE.thenN ?_
  refine GC.cond rfl (fun hq4 => ?_) (fun hq4 => ?_)
  ·replace hq4 := of_decide_eq_true hq4
   refine GC.region ?_
   refine GL.val (Ex.move rfl) (by decide) ?_
   refine GL.val (Ex.move rfl) (by decide) ?_
   refine GL.val (Ex.move rfl) (by decide) ?_
   refine GL.val (v := (.pointer (some ⟨bz, i, none⟩))) (Ex.cast (Ex.indexAddr rfl rfl Try.underlying36 T.sz23 (by omega) (by omega)) (by simp)) (by decide) ?_
   refine GL.val (v := (.int .u32 (((Nd.D z i : Nat) : Int)))) (Ex.loadO rfl T.ag23 (Nd.Nb.dig hrz (by omega)) (fun x => x)) (by decide) ?_
   refine GL.val (v := (.int .u64 (((Nd.D z i : Nat) : Int)))) (Ex.conv rfl Try.underlying23 Try.underlying70 (Z := ((Nd.D z i : Nat) : Int)) (wu64b (by omega))) (by decide) ?_
   refine GL.val (v := (.int .u64 ((((Nd.C 0 z i : Nat) : Int)) + (((Nd.D z i : Nat) : Int))))) (Ex.add rfl rfl (Z := (((Nd.C 0 z i : Nat) : Int)) + (((Nd.D z i : Nat) : Int))) (wu64b (by omega))) (by decide) ?_
   refine GL.val (Ex.assign rfl) (by decide) ?_
   refine GL.nil ?_
   refine GE.thenN ?_
   refine GC.seq ?_
   refine GC.region ?_
   refine GL.val (Ex.move rfl) (by decide) ?_
   refine GL.val (Ex.move rfl) (by decide) ?_
   refine GL.val (Ex.move rfl) (by decide) ?_
   refine GL.val (v := (.int .u64 (((Nd.D (0 + z) i : Nat) : Int)))) (Ex.bits rfl rfl (by simp) (Z := ((Nd.D (0 + z) i : Nat) : Int)) (andm64 32 (by omega) (by omega) (by omega) (by omega) rfl)) (by decide) ?_
   refine GL.val (v := (.int .u32 (((Nd.D (0 + z) i : Nat) : Int)))) (Ex.conv rfl Try.underlying70 Try.underlying23 (Z := ((Nd.D (0 + z) i : Nat) : Int)) (wu32b (by omega))) (by decide) ?_
   refine GL.val (v := (.pointer (some ⟨bq1, i, none⟩))) (Ex.cast (Ex.indexAddr rfl rfl Try.underlying36 T.sz23 (by omega) (by omega)) (by simp)) (by decide) ?_
   refine GL.step (Stp.storeL (i := 0) (cs := (Nd.dl n ((0 + z) % Nd.Bs ^ i)).map u32) (vs := [(.int .u32 (((Nd.D (0 + z) i : Nat) : Int)))]) (o := i) (L1 := [⟨bq1, (Nd.dl n ((0 + z) % Nd.Bs ^ (i + 1))).map u32, 23, true⟩]) rfl rfl rfl T.sz23 rfl (Nat.ble_eq_true_of_le (show i + 1 ≤ _ by rw [Nd.dl_mlen]; omega)) rfl (by rw [Nd.st_next (by omega) rfl]; rfl)) (fun _ _ => ?_)
   refine GL.nil ?_
   refine GE.thenN ?_
   refine GC.region ?_
   refine GL.val (Ex.move rfl) (by decide) ?_
   refine GL.val (v := (.int .u64 (((Nd.C 0 z (i + 1) : Nat) : Int)))) (Ex.shr rfl (m := 32) rfl (by decide) (Z := ((Nd.C 0 z (i + 1) : Nat) : Int)) (by omega)) (by decide) ?_
   refine GL.val (Ex.assign rfl) (by decide) ?_
   refine GL.nil ?_
   refine GE.blockN ?_
   refine GE.thenN ?_
   refine GC.region ?_
   refine GL.val (Ex.move rfl) (by decide) ?_
   refine GL.val (v := (.int .i64 (((i + 1 : Nat) : Int)))) (Ex.add rfl rfl (Z := ((i + 1 : Nat) : Int)) (w64 (by omega))) (by decide) ?_
   refine GL.val (Ex.assign rfl) (by decide) ?_
   refine GL.nil ?_
   refine GE.thenN ?_
   exact Head.mk (i + 1) (by omega) (by omega) ((sub_cons rfl ((sub_cons rfl ((sub_cons rfl ((sub_cons rfl ((sub_cons rfl ((sub_cons rfl ((sub_cons rfl ((sub_nil _)))))))))))))))) (ulC ulN)
  ·replace hq4 := of_decide_eq_false hq4
   have yz : Nd.D z i = 0 := Nd.D_far (by omega)
   refine GC.skip ?_
   refine GE.thenN ?_
   refine GC.seq ?_
   refine GC.region ?_
   refine GL.val (Ex.move rfl) (by decide) ?_
   refine GL.val (Ex.move rfl) (by decide) ?_
   refine GL.val (Ex.move rfl) (by decide) ?_
   refine GL.val (v := (.int .u64 (((Nd.D (0 + z) i : Nat) : Int)))) (Ex.bits rfl rfl (by simp) (Z := ((Nd.D (0 + z) i : Nat) : Int)) (andm64 32 (by omega) (by omega) (by omega) (by omega) rfl)) (by decide) ?_
   refine GL.val (v := (.int .u32 (((Nd.D (0 + z) i : Nat) : Int)))) (Ex.conv rfl Try.underlying70 Try.underlying23 (Z := ((Nd.D (0 + z) i : Nat) : Int)) (wu32b (by omega))) (by decide) ?_
   refine GL.val (v := (.pointer (some ⟨bq1, i, none⟩))) (Ex.cast (Ex.indexAddr rfl rfl Try.underlying36 T.sz23 (by omega) (by omega)) (by simp)) (by decide) ?_
   refine GL.step (Stp.storeL (i := 0) (cs := (Nd.dl n ((0 + z) % Nd.Bs ^ i)).map u32) (vs := [(.int .u32 (((Nd.D (0 + z) i : Nat) : Int)))]) (o := i) (L1 := [⟨bq1, (Nd.dl n ((0 + z) % Nd.Bs ^ (i + 1))).map u32, 23, true⟩]) rfl rfl rfl T.sz23 rfl (Nat.ble_eq_true_of_le (show i + 1 ≤ _ by rw [Nd.dl_mlen]; omega)) rfl (by rw [Nd.st_next (by omega) rfl]; rfl)) (fun _ _ => ?_)
   refine GL.nil ?_
   refine GE.thenN ?_
   refine GC.region ?_
   refine GL.val (Ex.move rfl) (by decide) ?_
   refine GL.val (v := (.int .u64 (((Nd.C 0 z (i + 1) : Nat) : Int)))) (Ex.shr rfl (m := 32) rfl (by decide) (Z := ((Nd.C 0 z (i + 1) : Nat) : Int)) (by omega)) (by decide) ?_
   refine GL.val (Ex.assign rfl) (by decide) ?_
   refine GL.nil ?_
   refine GE.blockN ?_
   refine GE.thenN ?_
   refine GC.region ?_
   refine GL.val (Ex.move rfl) (by decide) ?_
   refine GL.val (v := (.int .i64 (((i + 1 : Nat) : Int)))) (Ex.add rfl rfl (Z := ((i + 1 : Nat) : Int)) (w64 (by omega))) (by decide) ?_
   refine GL.val (Ex.assign rfl) (by decide) ?_
   refine GL.nil ?_
   refine GE.thenN ?_
   exact Head.mk (i + 1) (by omega) (by omega) ((sub_cons rfl ((sub_cons rfl ((sub_cons rfl ((sub_cons rfl ((sub_cons rfl ((sub_cons rfl ((sub_cons rfl ((sub_nil _)))))))))))))))) (ulC ulN)
 ·replace hq2 := of_decide_eq_false hq2
  refine GC.exit ?_
  refine GE.thenE ?_
  refine GE.thenE ?_
  refine GE.blockE ?_
  refine GE.thenN ?_
  refine GC.seq ?_
  have hin : i = n := by omega
  rw [hin, Nd.mod_all (by rw [hn]; exact Nd.plus_lt)]
  refine GC.region ?_
  refine GL.val (Ex.move rfl) (by decide) ?_
  refine GL.step (Stp.callR (vs := [(.slice (some ⟨bq1, 0, none⟩) n n)]) rfl rfl T.own63 (by decide) (fun wc hw => trim_g bq1 n (0 + z) wc (by omega) (by rw [hn]; exact Nd.plus_lt) (Has.cons (hw.hasOf (i := 0) rfl) (Has.nil _)))) (fun xq5 hq6 => ?_)
  refine GL.val (Ex.assign rfl) (by decide) ?_
  refine GL.nil ?_
  refine GE.thenN ?_
  refine GC.ret ?_
  refine GC.ret1 rfl (Rv.tmp rfl) (fun wN HN => ?_)
  exact HN.ret bq1 trivial rfl (ulC ulN) rfl

set_option maxRecDepth 100000 in
set_option maxHeartbeats 1000000 in
theorem plus_nn (adx : Option Addr) (cx : Nat) (adz : Option Addr) (cz : Nat) (n : Nat) (w : World)   (hn : n = max (Nd.nd 0) (Nd.nd 0) + 1) :
  Calls Try.prog 64 #[(.slice adx 0 cx), (.slice adz 0 cz)] w (Ret w (fun _ : Nat => True) (fun z' => (.slice (some ⟨z', 0, none⟩) ((Nd.nd (0 + 0))) n)) (fun z' => [⟨z', (Nd.dl n (0 + 0)).map u32, 23, true⟩])) := by
 have h00 : Nd.nd 0 = 0 := rfl
 refine enter (M := None) (L := []) (n := 56) (l := [(0, (.slice adx 0 cx)), (1, (.slice adz 0 cz))]) Try.func64 rfl rfl (Args.cons rfl (Args.cons rfl (Args.nil _))) (Hp.start _ _) ?_
 refine GC.seq ?_
 refine GC.region ?_
 refine GL.val (Ex.assign rfl) (by decide) ?_
 refine GL.nil ?_
 refine GE.thenN ?_
 refine GC.seq ?_
 refine GC.region ?_
 refine GL.val (Ex.move rfl) (by decide) ?_
 refine GL.val (v := (.int .i64 0)) (Ex.len rfl Try.underlying36) (by decide) ?_
 refine GL.val (Ex.move rfl) (by decide) ?_
 refine GL.val (v := (.int .i64 0)) (Ex.len rfl Try.underlying36) (by decide) ?_
 refine GL.val (v := (.int .i64 ((((n : Nat) : Int) - 1)))) (Ex.maxI rfl rfl (Z := ((n : Nat) : Int) - 1) (by split <;> omega)) (by decide) ?_
 refine GL.val (v := (.int .i64 (((n : Nat) : Int)))) (Ex.add rfl rfl (Z := ((n : Nat) : Int)) (by rw [w64 (by omega)]; omega)) (by decide) ?_
 refine GL.val (Ex.assign rfl) (by decide) ?_
 refine GL.nil ?_
 refine GE.thenN ?_
 refine GC.seq ?_
 refine GC.region ?_
 refine GL.val (Ex.move rfl) (by decide) ?_
 refine GL.step (Stp.makeSlice (a1 := n) (c := n) rfl rfl Try.underlying36 T.zr23 T.sz23 T.by23 rfl (Nat.le_refl _) (by omega) (by omega) (by decide)) (fun bq1 _ => ?_)
 rw [madeOne, Nd.rep_0 n (0 + 0)]
 refine GL.val (Ex.assign rfl) (by decide) ?_
 refine GL.nil ?_
 refine GE.thenN ?_
 refine GC.seq ?_
 refine GC.region ?_
 refine GL.val (v := (.int .u64 (((Nd.C 0 0 0 : Nat) : Int)))) (Ex.cast (Ex.assign rfl) (show Value.int .u64 0 = Value.int .u64 ((Nd.C 0 0 0 : Nat) : Int) by rw [Nd.C_zero]; rfl)) (by decide) ?_
 refine GL.nil ?_
 refine GE.thenN ?_
 refine GC.seq ?_
 refine GC.seq ?_
 refine GC.region ?_
 refine GL.val (Ex.assign rfl) (by decide) ?_
 refine GL.nil ?_
 refine GE.thenN ?_
 refine GC.block ?_
 refine GC.loop (σ := Nat) (fun i => i ≤ n) (fun i => [(0, (.slice adx 0 cx)), (1, (.slice adz 0 cz)), (4, (.slice none 0 0)), (5, (.int .i64 (((n : Nat) : Int)))), (6, (.slice (some ⟨bq1, 0, none⟩) n n)), (7, (.int .u64 (((Nd.C 0 0 i : Nat) : Int)))), (8, (.int .i64 (((i : Nat) : Int))))]) (fun i => [⟨bq1, (Nd.dl n ((0 + 0) % Nd.Bs ^ i)).map u32, 23, true⟩]) (fun i => n - i) (0) (Nat.zero_le _) ((sub_cons rfl ((sub_cons rfl ((sub_cons rfl ((sub_cons rfl ((sub_cons rfl ((sub_cons rfl ((sub_cons rfl ((sub_nil _)))))))))))))))) (ulC ulN) (fun i hp => ?_)
 have hpi : i ≤ n := hp
 obtain ⟨f1, f2, f3, f4, f5, f6⟩ := Nd.add_facts 0 0 i
 have z1 : Nd.D 0 i = 0 := Nd.D_0 i
 have z2 : Nd.D 0 i = 0 := Nd.D_0 i
 refine GC.seq ?_
 refine GC.seq ?_
 refine GC.region ?_
 refine GL.val (Ex.move rfl) (by decide) ?_
 refine GL.val (Ex.move rfl) (by decide) ?_
 refine GL.val (v := (.bool (decide ((((i : Nat) : Int)) < (((n : Nat) : Int)))))) (Ex.lss rfl rfl) (by decide) ?_
 refine GL.nil ?_
 refine GE.thenN ?_
 refine GC.cond rfl (fun hq2 => ?_) (fun hq2 => ?_)
 ·replace hq2 := of_decide_eq_true hq2
  refine GC.skip ?_
  refine GE.thenN ?_
  refine GC.seq ?_
  refine GC.block ?_
  refine GC.seq ?_
  refine GC.region ?_
  refine GL.val (Ex.move rfl) (by decide) ?_
  refine GL.val (Ex.assign rfl) (by decide) ?_
  refine GL.nil ?_
  refine GE.thenN ?_
  refine GC.seq ?_
  refine GC.seq ?_
  refine GC.region ?_
  refine GL.val (Ex.move rfl) (by decide) ?_
  refine GL.val (Ex.move rfl) (by decide) ?_
  refine GL.val (v := (.int .i64 0)) (Ex.len rfl Try.underlying36) (by decide) ?_
  refine GL.val (v := (.bool false)) (Ex.cast (Ex.lss rfl rfl) (congrArg Value.bool (decide_eq_false (by omega)))) (by decide) ?_
  refine GL.nil ?_
  refine GE.thenN ?_
  refine GC.cond rfl (fun hq3 => by cases hq3) (fun _ => ?_)
  refine GC.skip ?_
  refine GE.thenN ?_
  refine GC.seq ?_
  refine GC.seq ?_
  refine GC.region ?_
  refine GL.val (Ex.move rfl) (by decide) ?_
  refine GL.val (Ex.move rfl) (by decide) ?_
  refine GL.val (v := (.int .i64 0)) (Ex.len rfl Try.underlying36) (by decide) ?_
  refine GL.val (v := (.bool false)) (Ex.cast (Ex.lss rfl rfl) (congrArg Value.bool (decide_eq_false (by omega)))) (by decide) ?_
  refine GL.nil ?_
  refine GE.thenN ?_
  refine GC.cond rfl (fun hq4 => by cases hq4) (fun _ => ?_)
  refine GC.skip ?_
  refine GE.thenN ?_
  refine GC.seq ?_
  refine GC.region ?_
  refine GL.val (Ex.move rfl) (by decide) ?_
  refine GL.val (Ex.move rfl) (by decide) ?_
  refine GL.val (Ex.move rfl) (by decide) ?_
  refine GL.val (v := (.int .u64 (((Nd.D (0 + 0) i : Nat) : Int)))) (Ex.bits rfl rfl (by simp) (Z := ((Nd.D (0 + 0) i : Nat) : Int)) (andm64 32 (by omega) (by omega) (by omega) (by omega) rfl)) (by decide) ?_
  refine GL.val (v := (.int .u32 (((Nd.D (0 + 0) i : Nat) : Int)))) (Ex.conv rfl Try.underlying70 Try.underlying23 (Z := ((Nd.D (0 + 0) i : Nat) : Int)) (wu32b (by omega))) (by decide) ?_
  refine GL.val (v := (.pointer (some ⟨bq1, i, none⟩))) (Ex.cast (Ex.indexAddr rfl rfl Try.underlying36 T.sz23 (by omega) (by omega)) (by simp)) (by decide) ?_
  refine GL.step (Stp.storeL (i := 0) (cs := (Nd.dl n ((0 + 0) % Nd.Bs ^ i)).map u32) (vs := [(.int .u32 (((Nd.D (0 + 0) i : Nat) : Int)))]) (o := i) (L1 := [⟨bq1, (Nd.dl n ((0 + 0) % Nd.Bs ^ (i + 1))).map u32, 23, true⟩]) rfl rfl rfl T.sz23 rfl (Nat.ble_eq_true_of_le (show i + 1 ≤ _ by rw [Nd.dl_mlen]; omega)) rfl (by rw [Nd.st_next (by omega) rfl]; rfl)) (fun _ _ => ?_)
  refine GL.nil ?_
  refine GE.thenN ?_
  refine GC.region ?_
  refine GL.val (Ex.move rfl) (by decide) ?_
  refine GL.val (v := (.int .u64 (((Nd.C 0 0 (i + 1) : Nat) : Int)))) (Ex.shr rfl (m := 32) rfl (by decide) (Z := ((Nd.C 0 0 (i + 1) : Nat) : Int)) (by omega)) (by decide) ?_
  refine GL.val (Ex.assign rfl) (by decide) ?_
  refine GL.nil ?_
  refine GE.blockN ?_
  refine GE.thenN ?_
  refine GC.region ?_
  refine GL.val (Ex.move rfl) (by decide) ?_
  refine GL.val (v := (.int .i64 (((i + 1 : Nat) : Int)))) (Ex.add rfl rfl (Z := ((i + 1 : Nat) : Int)) (w64 (by omega))) (by decide) ?_
  refine GL.val (Ex.assign rfl) (by decide) ?_
  refine GL.nil ?_
  refine GE.thenN ?_
  exact Head.mk (i + 1) (by omega) (by omega) ((sub_cons rfl ((sub_cons rfl ((sub_cons rfl ((sub_cons rfl ((sub_cons rfl ((sub_cons rfl ((sub_cons rfl ((sub_nil _)))))))))))))))) (ulC ulN)
 ·replace hq2 := of_decide_eq_false hq2
  refine GC.exit ?_
  refine GE.thenE ?_
  refine GE.thenE ?_
  refine GE.blockE ?_
  refine GE.thenN ?_
  refine GC.seq ?_
  have hin : i = n := by omega
  rw [hin, Nd.mod_all (by rw [hn]; exact Nd.plus_lt)]
  refine GC.region ?_
  refine GL.val (Ex.move rfl) (by decide) ?_
  refine GL.step (Stp.callR (vs := [(.slice (some ⟨bq1, 0, none⟩) n n)]) rfl rfl T.own63 (by decide) (fun wc hw => trim_g bq1 n (0 + 0) wc (by omega) (by rw [hn]; exact Nd.plus_lt) (Has.cons (hw.hasOf (i := 0) rfl) (Has.nil _)))) (fun xq5 hq6 => ?_)
  refine GL.val (Ex.assign rfl) (by decide) ?_
  refine GL.nil ?_
  refine GE.thenN ?_
  refine GC.ret ?_
  refine GC.ret1 rfl (Rv.tmp rfl) (fun wN HN => ?_)
  exact HN.ret bq1 trivial rfl (ulC ulN) rfl

set_option maxRecDepth 100000 in
set_option maxHeartbeats 1000000 in
theorem minus_b (d bx cx : Nat) (z bz cz : Nat) (w : World) (hrx : Nd.Nb w bx (z + d)) (hnx : Nd.nd (z + d) ≤ 1000) (hrz : Nd.Nb w bz z) (hnz : Nd.nd z ≤ 1000) :
  Calls Try.prog 65 #[(.slice (some ⟨bx, 0, none⟩) ((Nd.nd (z + d))) cx), (.slice (some ⟨bz, 0, none⟩) ((Nd.nd z)) cz)] w (Ret w (fun _ : Nat => True) (fun z' => (.slice (some ⟨z', 0, none⟩) ((Nd.nd d)) ((Nd.nd (z + d))))) (fun z' => [⟨z', (Nd.dl ((Nd.nd (z + d))) d).map u32, 23, true⟩])) := by
 have h00 : Nd.nd 0 = 0 := rfl
 refine enter (M := None) (L := []) (n := 50) (l := [(0, (.slice (some ⟨bx, 0, none⟩) ((Nd.nd (z + d))) cx)), (1, (.slice (some ⟨bz, 0, none⟩) ((Nd.nd z)) cz))]) Try.func65 rfl rfl (Args.cons rfl (Args.cons rfl (Args.nil _))) (Hp.start _ _) ?_
 refine GC.seq ?_
 refine GC.region ?_
 refine GL.val (Ex.assign rfl) (by decide) ?_
 refine GL.nil ?_
 refine GE.thenN ?_
 refine GC.seq ?_
 refine GC.region ?_
 refine GL.val (Ex.move rfl) (by decide) ?_
 refine GL.val (v := (.int .i64 ((((Nd.nd (z + d))) : Int)))) (Ex.len rfl Try.underlying36) (by decide) ?_
 refine GL.step (Stp.makeSlice (a1 := (Nd.nd (z + d))) (c := (Nd.nd (z + d))) rfl rfl Try.underlying36 T.zr23 T.sz23 T.by23 rfl (Nat.le_refl _) (by omega) (by omega) (by decide)) (fun bq1 _ => ?_)
 rw [madeOne, Nd.rep_0 (Nd.nd (z + d)) d]
 refine GL.val (Ex.assign rfl) (by decide) ?_
 refine GL.nil ?_
 refine GE.thenN ?_
 refine GC.seq ?_
 refine GC.region ?_
 refine GL.val (v := (.int .u64 (((Nd.C z d 0 : Nat) : Int)))) (Ex.cast (Ex.assign rfl) (show Value.int .u64 0 = Value.int .u64 ((Nd.C z d 0 : Nat) : Int) by rw [Nd.C_zero]; rfl)) (by decide) ?_
 refine GL.nil ?_
 refine GE.thenN ?_
 refine GC.seq ?_
 refine GC.seq ?_
 refine GC.region ?_
 refine GL.val (Ex.assign rfl) (by decide) ?_
 refine GL.nil ?_
 refine GE.thenN ?_
 refine GC.block ?_
 refine GC.loop (σ := Nat) (fun i => i ≤ (Nd.nd (z + d))) (fun i => [(0, (.slice (some ⟨bx, 0, none⟩) ((Nd.nd (z + d))) cx)), (1, (.slice (some ⟨bz, 0, none⟩) ((Nd.nd z)) cz)), (4, (.slice none 0 0)), (5, (.slice (some ⟨bq1, 0, none⟩) ((Nd.nd (z + d))) ((Nd.nd (z + d))))), (6, (.int .u64 (((Nd.C z d i : Nat) : Int)))), (7, (.int .i64 (((i : Nat) : Int))))]) (fun i => [⟨bq1, (Nd.dl ((Nd.nd (z + d))) (d % Nd.Bs ^ i)).map u32, 23, true⟩]) (fun i => (Nd.nd (z + d)) - i) (0) (Nat.zero_le _) ((sub_cons rfl ((sub_cons rfl ((sub_cons rfl ((sub_cons rfl ((sub_cons rfl ((sub_cons rfl ((sub_nil _)))))))))))))) (ulC ulN) (fun i hp => ?_)
 have hpi : i ≤ (Nd.nd (z + d)) := hp
 obtain ⟨f1, f2, f3, f4, f5, f6⟩ := Nd.add_facts z d i
 refine GC.seq ?_
 refine GC.seq ?_
 refine GC.region ?_
 refine GL.val (Ex.move rfl) (by decide) ?_
 refine GL.val (Ex.move rfl) (by decide) ?_
 refine GL.val (v := (.int .i64 ((((Nd.nd (z + d))) : Int)))) (Ex.len rfl Try.underlying36) (by decide) ?_
 refine GL.val (v := (.bool (decide ((((i : Nat) : Int)) < ((((Nd.nd (z + d))) : Int)))))) (Ex.lss rfl rfl) (by decide) ?_
 refine GL.nil ?_
 refine GE.thenN ?_
 refine GC.cond rfl (fun hq2 => ?_) (fun hq2 => ?_)
 ·replace hq2 := of_decide_eq_true hq2
  refine GC.skip ?_
  refine GE.thenN ?_
  refine GC.seq ?_
  refine GC.block ?_
  refine GC.seq ?_
  refine GC.region ?_
  refine GL.val (Ex.move rfl) (by decide) ?_
  refine GL.val (Ex.assign rfl) (by decide) ?_
  refine GL.nil ?_
  refine GE.thenN ?_
  refine GC.seq ?_
  refine GC.seq ?_
  refine GC.region ?_
  refine GL.val (Ex.move rfl) (by decide) ?_
  refine GL.val (Ex.move rfl) (by decide) ?_
  refine GL.val (v := (.int .i64 ((((Nd.nd z)) : Int)))) (Ex.len rfl Try.underlying36) (by decide) ?_
  refine GL.val (v := (.bool (decide ((((i : Nat) : Int)) < ((((Nd.nd z)) : Int)))))) (Ex.lss rfl rfl) (by decide) ?_
  refine GL.nil ?_
  refine GE.thenN ?_
  refine GC.cond rfl (fun hq3 => ?_) (fun hq3 => ?_)
  ·replace hq3 := of_decide_eq_true hq3
   refine GC.region ?_
   refine GL.val (Ex.move rfl) (by decide) ?_
   refine GL.val (Ex.move rfl) (by decide) ?_
   refine GL.val (Ex.move rfl) (by decide) ?_
   refine GL.val (v := (.pointer (some ⟨bz, i, none⟩))) (Ex.cast (Ex.indexAddr rfl rfl Try.underlying36 T.sz23 (by omega) (by omega)) (by simp)) (by decide) ?_
   refine GL.val (v := (.int .u32 (((Nd.D z i : Nat) : Int)))) (Ex.loadO rfl T.ag23 (Nd.Nb.dig hrz (by omega)) (fun x => x)) (by decide) ?_
   refine GL.val (v := (.int .u64 (((Nd.D z i : Nat) : Int)))) (Ex.conv rfl Try.underlying23 Try.underlying70 (Z := ((Nd.D z i : Nat) : Int)) (wu64b (by omega))) (by decide) ?_
   refine GL.val (v := (.int .u64 ((((Nd.C z d i : Nat) : Int)) + (((Nd.D z i : Nat) : Int))))) (Ex.add rfl rfl (Z := (((Nd.C z d i : Nat) : Int)) + (((Nd.D z i : Nat) : Int))) (wu64b (by omega))) (by decide) ?_
   refine GL.val (Ex.assign rfl) (by decide) ?_
   refine GL.nil ?_
   refine GE.thenN ?_
   refine GC.seq ?_
   refine GC.region ?_
   refine GL.val (Ex.move rfl) (by decide) ?_
   refine GL.val (Ex.move rfl) (by decide) ?_
   refine GL.val (v := (.pointer (some ⟨bx, i, none⟩))) (Ex.cast (Ex.indexAddr rfl rfl Try.underlying36 T.sz23 (by omega) (by omega)) (by simp)) (by decide) ?_
   refine GL.val (v := (.int .u32 (((Nd.D (z + d) i : Nat) : Int)))) (Ex.loadO rfl T.ag23 (Nd.Nb.dig hrx (by omega)) (fun x => x)) (by decide) ?_
   refine GL.val (v := (.int .u64 (((Nd.D (z + d) i : Nat) : Int)))) (Ex.conv rfl Try.underlying23 Try.underlying70 (Z := ((Nd.D (z + d) i : Nat) : Int)) (wu64b (by omega))) (by decide) ?_
   refine GL.val (Ex.assign rfl) (by decide) ?_
   refine GL.nil ?_
   refine GE.thenN ?_
   refine GC.seq ?_
   refine GC.region ?_
   refine GL.val (Ex.assign rfl) (by decide) ?_
   refine GL.nil ?_
   refine GE.thenN ?_
   refine GC.seq ?_
   refine GC.seq ?_
   refine GC.region ?_
   refine GL.val (Ex.move rfl) (by decide) ?_
   refine GL.val (Ex.move rfl) (by decide) ?_
   refine GL.val (v := (.bool (decide ((((Nd.D (z + d) i : Nat) : Int)) < ((((Nd.C z d i : Nat) : Int)) + (((Nd.D z i : Nat) : Int))))))) (Ex.lss rfl rfl) (by decide) ?_
   refine GL.nil ?_
   refine GE.thenN ?_
   refine GC.cond rfl (fun hq4 => ?_) (fun hq4 => ?_)
   ·replace hq4 := of_decide_eq_true hq4
    refine GC.seq ?_
    refine GC.region ?_
    refine GL.val (Ex.move rfl) (by decide) ?_
    refine GL.val (v := (.int .u64 ((((Nd.D (z + d) i : Nat) : Int)) + 4294967296))) (Ex.add rfl rfl (Z := (((Nd.D (z + d) i : Nat) : Int)) + 4294967296) (wu64b (by omega))) (by decide) ?_
    refine GL.val (Ex.assign rfl) (by decide) ?_
    refine GL.nil ?_
    refine GE.thenN ?_
    refine GC.region ?_
    refine GL.val (Ex.assign rfl) (by decide) ?_
    refine GL.nil ?_
    refine GE.thenN ?_
    refine GC.region ?_
    refine GL.val (Ex.move rfl) (by decide) ?_
    refine GL.val (Ex.move rfl) (by decide) ?_
    refine GL.val (Ex.move rfl) (by decide) ?_
    refine GL.val (Ex.move rfl) (by decide) ?_
    refine GL.val (v := (.int .u64 (((((Nd.D (z + d) i : Nat) : Int)) + 4294967296) - ((((Nd.C z d i : Nat) : Int)) + (((Nd.D z i : Nat) : Int)))))) (Ex.sub' rfl rfl (Z := ((((Nd.D (z + d) i : Nat) : Int)) + 4294967296) - ((((Nd.C z d i : Nat) : Int)) + (((Nd.D z i : Nat) : Int)))) (wu64b (by omega))) (by decide) ?_
    refine GL.val (v := (.int .u32 (((Nd.D d i : Nat) : Int)))) (Ex.conv rfl Try.underlying70 Try.underlying23 (Z := ((Nd.D d i : Nat) : Int)) (by rw [wu32]; omega)) (by decide) ?_
    refine GL.val (v := (.pointer (some ⟨bq1, i, none⟩))) (Ex.cast (Ex.indexAddr rfl rfl Try.underlying36 T.sz23 (by omega) (by omega)) (by simp)) (by decide) ?_
    refine GL.step (Stp.storeL (i := 0) (cs := (Nd.dl ((Nd.nd (z + d))) (d % Nd.Bs ^ i)).map u32) (vs := [(.int .u32 (((Nd.D d i : Nat) : Int)))]) (o := i) (L1 := [⟨bq1, (Nd.dl ((Nd.nd (z + d))) (d % Nd.Bs ^ (i + 1))).map u32, 23, true⟩]) rfl rfl rfl T.sz23 rfl (Nat.ble_eq_true_of_le (show i + 1 ≤ _ by rw [Nd.dl_mlen]; omega)) rfl (by rw [Nd.st_next (by omega) rfl]; rfl)) (fun _ _ => ?_)
    refine GL.nil ?_
    refine GE.blockN ?_
    refine GE.thenN ?_
    refine GC.region ?_
    refine GL.val (Ex.move rfl) (by decide) ?_
    refine GL.val (v := (.int .i64 (((i + 1 : Nat) : Int)))) (Ex.add rfl rfl (Z := ((i + 1 : Nat) : Int)) (w64 (by omega))) (by decide) ?_
    refine GL.val (Ex.assign rfl) (by decide) ?_
    refine GL.nil ?_
    refine GE.thenN ?_
    exact Head.mk (i + 1) (by omega) (by omega) ((sub_cons rfl ((sub_cons rfl ((sub_cons rfl ((sub_cons rfl ((sub_cons (congrArg (fun q => some (Value.int .u64 q)) (by omega)) ((sub_cons rfl ((sub_nil _)))))))))))))) (ulC ulN)
   ·replace hq4 := of_decide_eq_false hq4
    refine GC.skip ?_
    refine GE.thenN ?_
    refine GC.region ?_
    refine GL.val (Ex.move rfl) (by decide) ?_
    refine GL.val (Ex.move rfl) (by decide) ?_
    refine GL.val (Ex.move rfl) (by decide) ?_
    refine GL.val (Ex.move rfl) (by decide) ?_
    refine GL.val (v := (.int .u64 ((((Nd.D (z + d) i : Nat) : Int)) - ((((Nd.C z d i : Nat) : Int)) + (((Nd.D z i : Nat) : Int)))))) (Ex.sub' rfl rfl (Z := (((Nd.D (z + d) i : Nat) : Int)) - ((((Nd.C z d i : Nat) : Int)) + (((Nd.D z i : Nat) : Int)))) (wu64b (by omega))) (by decide) ?_
    refine GL.val (v := (.int .u32 (((Nd.D d i : Nat) : Int)))) (Ex.conv rfl Try.underlying70 Try.underlying23 (Z := ((Nd.D d i : Nat) : Int)) (by rw [wu32]; omega)) (by decide) ?_
    refine GL.val (v := (.pointer (some ⟨bq1, i, none⟩))) (Ex.cast (Ex.indexAddr rfl rfl Try.underlying36 T.sz23 (by omega) (by omega)) (by simp)) (by decide) ?_
    refine GL.step (Stp.storeL (i := 0) (cs := (Nd.dl ((Nd.nd (z + d))) (d % Nd.Bs ^ i)).map u32) (vs := [(.int .u32 (((Nd.D d i : Nat) : Int)))]) (o := i) (L1 := [⟨bq1, (Nd.dl ((Nd.nd (z + d))) (d % Nd.Bs ^ (i + 1))).map u32, 23, true⟩]) rfl rfl rfl T.sz23 rfl (Nat.ble_eq_true_of_le (show i + 1 ≤ _ by rw [Nd.dl_mlen]; omega)) rfl (by rw [Nd.st_next (by omega) rfl]; rfl)) (fun _ _ => ?_)
    refine GL.nil ?_
    refine GE.blockN ?_
    refine GE.thenN ?_
    refine GC.region ?_
    refine GL.val (Ex.move rfl) (by decide) ?_
    refine GL.val (v := (.int .i64 (((i + 1 : Nat) : Int)))) (Ex.add rfl rfl (Z := ((i + 1 : Nat) : Int)) (w64 (by omega))) (by decide) ?_
    refine GL.val (Ex.assign rfl) (by decide) ?_
    refine GL.nil ?_
    refine GE.thenN ?_
    exact Head.mk (i + 1) (by omega) (by omega) ((sub_cons rfl ((sub_cons rfl ((sub_cons rfl ((sub_cons rfl ((sub_cons (congrArg (fun q => some (Value.int .u64 q)) (by omega)) ((sub_cons rfl ((sub_nil _)))))))))))))) (ulC ulN)
  ·replace hq3 := of_decide_eq_false hq3
   have yz : Nd.D z i = 0 := Nd.D_far (by omega)
   refine GC.skip ?_
   refine GE.thenN ?_
   refine GC.seq ?_
   refine GC.region ?_
   refine GL.val (Ex.move rfl) (by decide) ?_
   refine GL.val (Ex.move rfl) (by decide) ?_
   refine GL.val (v := (.pointer (some ⟨bx, i, none⟩))) (Ex.cast (Ex.indexAddr rfl rfl Try.underlying36 T.sz23 (by omega) (by omega)) (by simp)) (by decide) ?_
   refine GL.val (v := (.int .u32 (((Nd.D (z + d) i : Nat) : Int)))) (Ex.loadO rfl T.ag23 (Nd.Nb.dig hrx (by omega)) (fun x => x)) (by decide) ?_
   refine GL.val (v := (.int .u64 (((Nd.D (z + d) i : Nat) : Int)))) (Ex.conv rfl Try.underlying23 Try.underlying70 (Z := ((Nd.D (z + d) i : Nat) : Int)) (wu64b (by omega))) (by decide) ?_
   refine GL.val (Ex.assign rfl) (by decide) ?_
   refine GL.nil ?_
   refine GE.thenN ?_
   refine GC.seq ?_
   refine GC.region ?_
   refine GL.val (Ex.assign rfl) (by decide) ?_
   refine GL.nil ?_
   refine GE.thenN ?_
   refine GC.seq ?_
   refine GC.seq ?_
   refine GC.region ?_
   refine GL.val (Ex.move rfl) (by decide) ?_
   refine GL.val (Ex.move rfl) (by decide) ?_
   refine GL.val (v := (.bool (decide ((((Nd.D (z + d) i : Nat) : Int)) < (((Nd.C z d i : Nat) : Int)))))) (Ex.lss rfl rfl) (by decide) ?_
   refine GL.nil ?_
   refine GE.thenN ?_
   refine GC.cond rfl (fun hq5 => ?_) (fun hq5 => ?_)
   ·replace hq5 := of_decide_eq_true hq5
    refine GC.seq ?_
    refine GC.region ?_
    refine GL.val (Ex.move rfl) (by decide) ?_
    refine GL.val (v := (.int .u64 ((((Nd.D (z + d) i : Nat) : Int)) + 4294967296))) (Ex.add rfl rfl (Z := (((Nd.D (z + d) i : Nat) : Int)) + 4294967296) (wu64b (by omega))) (by decide) ?_
    refine GL.val (Ex.assign rfl) (by decide) ?_
    refine GL.nil ?_
    refine GE.thenN ?_
    refine GC.region ?_
    refine GL.val (Ex.assign rfl) (by decide) ?_
    refine GL.nil ?_
    refine GE.thenN ?_
    refine GC.region ?_
    refine GL.val (Ex.move rfl) (by decide) ?_
    refine GL.val (Ex.move rfl) (by decide) ?_
    refine GL.val (Ex.move rfl) (by decide) ?_
    refine GL.val (Ex.move rfl) (by decide) ?_
    refine GL.val (v := (.int .u64 (((((Nd.D (z + d) i : Nat) : Int)) + 4294967296) - (((Nd.C z d i : Nat) : Int))))) (Ex.sub' rfl rfl (Z := ((((Nd.D (z + d) i : Nat) : Int)) + 4294967296) - (((Nd.C z d i : Nat) : Int))) (wu64b (by omega))) (by decide) ?_
    refine GL.val (v := (.int .u32 (((Nd.D d i : Nat) : Int)))) (Ex.conv rfl Try.underlying70 Try.underlying23 (Z := ((Nd.D d i : Nat) : Int)) (by rw [wu32]; omega)) (by decide) ?_
    refine GL.val (v := (.pointer (some ⟨bq1, i, none⟩))) (Ex.cast (Ex.indexAddr rfl rfl Try.underlying36 T.sz23 (by omega) (by omega)) (by simp)) (by decide) ?_
    refine GL.step (Stp.storeL (i := 0) (cs := (Nd.dl ((Nd.nd (z + d))) (d % Nd.Bs ^ i)).map u32) (vs := [(.int .u32 (((Nd.D d i : Nat) : Int)))]) (o := i) (L1 := [⟨bq1, (Nd.dl ((Nd.nd (z + d))) (d % Nd.Bs ^ (i + 1))).map u32, 23, true⟩]) rfl rfl rfl T.sz23 rfl (Nat.ble_eq_true_of_le (show i + 1 ≤ _ by rw [Nd.dl_mlen]; omega)) rfl (by rw [Nd.st_next (by omega) rfl]; rfl)) (fun _ _ => ?_)
    refine GL.nil ?_
    refine GE.blockN ?_
    refine GE.thenN ?_
    refine GC.region ?_
    refine GL.val (Ex.move rfl) (by decide) ?_
    refine GL.val (v := (.int .i64 (((i + 1 : Nat) : Int)))) (Ex.add rfl rfl (Z := ((i + 1 : Nat) : Int)) (w64 (by omega))) (by decide) ?_
    refine GL.val (Ex.assign rfl) (by decide) ?_
    refine GL.nil ?_
    refine GE.thenN ?_
    exact Head.mk (i + 1) (by omega) (by omega) ((sub_cons rfl ((sub_cons rfl ((sub_cons rfl ((sub_cons rfl ((sub_cons (congrArg (fun q => some (Value.int .u64 q)) (by omega)) ((sub_cons rfl ((sub_nil _)))))))))))))) (ulC ulN)
   ·replace hq5 := of_decide_eq_false hq5
    refine GC.skip ?_
    refine GE.thenN ?_
    refine GC.region ?_
    refine GL.val (Ex.move rfl) (by decide) ?_
    refine GL.val (Ex.move rfl) (by decide) ?_
    refine GL.val (Ex.move rfl) (by decide) ?_
    refine GL.val (Ex.move rfl) (by decide) ?_
    refine GL.val (v := (.int .u64 ((((Nd.D (z + d) i : Nat) : Int)) - (((Nd.C z d i : Nat) : Int))))) (Ex.sub' rfl rfl (Z := (((Nd.D (z + d) i : Nat) : Int)) - (((Nd.C z d i : Nat) : Int))) (wu64b (by omega))) (by decide) ?_
    refine GL.val (v := (.int .u32 (((Nd.D d i : Nat) : Int)))) (Ex.conv rfl Try.underlying70 Try.underlying23 (Z := ((Nd.D d i : Nat) : Int)) (by rw [wu32]; omega)) (by decide) ?_
    refine GL.val (v := (.pointer (some ⟨bq1, i, none⟩))) (Ex.cast (Ex.indexAddr rfl rfl Try.underlying36 T.sz23 (by omega) (by omega)) (by simp)) (by decide) ?_
    refine GL.step (Stp.storeL (i := 0) (cs := (Nd.dl ((Nd.nd (z + d))) (d % Nd.Bs ^ i)).map u32) (vs := [(.int .u32 (((Nd.D d i : Nat) : Int)))]) (o := i) (L1 := [⟨bq1, (Nd.dl ((Nd.nd (z + d))) (d % Nd.Bs ^ (i + 1))).map u32, 23, true⟩]) rfl rfl rfl T.sz23 rfl (Nat.ble_eq_true_of_le (show i + 1 ≤ _ by rw [Nd.dl_mlen]; omega)) rfl (by rw [Nd.st_next (by omega) rfl]; rfl)) (fun _ _ => ?_)
    refine GL.nil ?_
    refine GE.blockN ?_
    refine GE.thenN ?_
    refine GC.region ?_
    refine GL.val (Ex.move rfl) (by decide) ?_
    refine GL.val (v := (.int .i64 (((i + 1 : Nat) : Int)))) (Ex.add rfl rfl (Z := ((i + 1 : Nat) : Int)) (w64 (by omega))) (by decide) ?_
    refine GL.val (Ex.assign rfl) (by decide) ?_
    refine GL.nil ?_
    refine GE.thenN ?_
    exact Head.mk (i + 1) (by omega) (by omega) ((sub_cons rfl ((sub_cons rfl ((sub_cons rfl ((sub_cons rfl ((sub_cons (congrArg (fun q => some (Value.int .u64 q)) (by omega)) ((sub_cons rfl ((sub_nil _)))))))))))))) (ulC ulN)
 ·replace hq2 := of_decide_eq_false hq2
  refine GC.exit ?_
  refine GE.thenE ?_
  refine GE.thenE ?_
  refine GE.blockE ?_
  refine GE.thenN ?_
  refine GC.seq ?_
  have hin : i = (Nd.nd (z + d)) := by omega
  rw [hin, Nd.mod_all (Nat.lt_of_le_of_lt (Nat.le_add_left d z) Nd.nd_lt)]
  refine GC.region ?_
  refine GL.val (Ex.move rfl) (by decide) ?_
  refine GL.step (Stp.callR (vs := [(.slice (some ⟨bq1, 0, none⟩) ((Nd.nd (z + d))) ((Nd.nd (z + d))))]) rfl rfl T.own63 (by decide) (fun wc hw => trim_g bq1 ((Nd.nd (z + d))) d wc (by omega) (Nat.lt_of_le_of_lt (Nat.le_add_left d z) Nd.nd_lt) (Has.cons (hw.hasOf (i := 0) rfl) (Has.nil _)))) (fun xq6 hq7 => ?_)
  refine GL.val (Ex.assign rfl) (by decide) ?_
  refine GL.nil ?_
  refine GE.thenN ?_
  refine GC.ret ?_
  refine GC.ret1 rfl (Rv.tmp rfl) (fun wN HN => ?_)
  exact HN.ret bq1 trivial rfl (ulC ulN) rfl

set_option maxRecDepth 100000 in
set_option maxHeartbeats 1000000 in
theorem minus_n (d bx cx : Nat) (adz : Option Addr) (cz : Nat) (w : World) (hrx : Nd.Nb w bx (0 + d)) (hnx : Nd.nd (0 + d) ≤ 1000)  :
  Calls Try.prog 65 #[(.slice (some ⟨bx, 0, none⟩) ((Nd.nd (0 + d))) cx), (.slice adz 0 cz)] w (Ret w (fun _ : Nat => True) (fun z' => (.slice (some ⟨z', 0, none⟩) ((Nd.nd d)) ((Nd.nd (0 + d))))) (fun z' => [⟨z', (Nd.dl ((Nd.nd (0 + d))) d).map u32, 23, true⟩])) := by
 have h00 : Nd.nd 0 = 0 := rfl
 refine enter (M := None) (L := []) (n := 50) (l := [(0, (.slice (some ⟨bx, 0, none⟩) ((Nd.nd (0 + d))) cx)), (1, (.slice adz 0 cz))]) Try.func65 rfl rfl (Args.cons rfl (Args.cons rfl (Args.nil _))) (Hp.start _ _) ?_
 refine GC.seq ?_
 refine GC.region ?_
 refine GL.val (Ex.assign rfl) (by decide) ?_
 refine GL.nil ?_
 refine GE.thenN ?_
 refine GC.seq ?_
 refine GC.region ?_
 refine GL.val (Ex.move rfl) (by decide) ?_
 refine GL.val (v := (.int .i64 ((((Nd.nd (0 + d))) : Int)))) (Ex.len rfl Try.underlying36) (by decide) ?_
 refine GL.step (Stp.makeSlice (a1 := (Nd.nd (0 + d))) (c := (Nd.nd (0 + d))) rfl rfl Try.underlying36 T.zr23 T.sz23 T.by23 rfl (Nat.le_refl _) (by omega) (by omega) (by decide)) (fun bq1 _ => ?_)
 rw [madeOne, Nd.rep_0 (Nd.nd (0 + d)) d]
 refine GL.val (Ex.assign rfl) (by decide) ?_
 refine GL.nil ?_
 refine GE.thenN ?_
 refine GC.seq ?_
 refine GC.region ?_
 refine GL.val (v := (.int .u64 (((Nd.C 0 d 0 : Nat) : Int)))) (Ex.cast (Ex.assign rfl) (show Value.int .u64 0 = Value.int .u64 ((Nd.C 0 d 0 : Nat) : Int) by rw [Nd.C_zero]; rfl)) (by decide) ?_
 refine GL.nil ?_
 refine GE.thenN ?_
 refine GC.seq ?_
 refine GC.seq ?_
 refine GC.region ?_
 refine GL.val (Ex.assign rfl) (by decide) ?_
 refine GL.nil ?_
 refine GE.thenN ?_
 refine GC.block ?_
 refine GC.loop (σ := Nat) (fun i => i ≤ (Nd.nd (0 + d))) (fun i => [(0, (.slice (some ⟨bx, 0, none⟩) ((Nd.nd (0 + d))) cx)), (1, (.slice adz 0 cz)), (4, (.slice none 0 0)), (5, (.slice (some ⟨bq1, 0, none⟩) ((Nd.nd (0 + d))) ((Nd.nd (0 + d))))), (6, (.int .u64 (((Nd.C 0 d i : Nat) : Int)))), (7, (.int .i64 (((i : Nat) : Int))))]) (fun i => [⟨bq1, (Nd.dl ((Nd.nd (0 + d))) (d % Nd.Bs ^ i)).map u32, 23, true⟩]) (fun i => (Nd.nd (0 + d)) - i) (0) (Nat.zero_le _) ((sub_cons rfl ((sub_cons rfl ((sub_cons rfl ((sub_cons rfl ((sub_cons rfl ((sub_cons rfl ((sub_nil _)))))))))))))) (ulC ulN) (fun i hp => ?_)
 have hpi : i ≤ (Nd.nd (0 + d)) := hp
 obtain ⟨f1, f2, f3, f4, f5, f6⟩ := Nd.add_facts 0 d i
 have z2 : Nd.D 0 i = 0 := Nd.D_0 i
 refine GC.seq ?_
 refine GC.seq ?_
 refine GC.region ?_
 refine GL.val (Ex.move rfl) (by decide) ?_
 refine GL.val (Ex.move rfl) (by decide) ?_
 refine GL.val (v := (.int .i64 ((((Nd.nd (0 + d))) : Int)))) (Ex.len rfl Try.underlying36) (by decide) ?_
 refine GL.val (v := (.bool (decide ((((i : Nat) : Int)) < ((((Nd.nd (0 + d))) : Int)))))) (Ex.lss rfl rfl) (by decide) ?_
 refine GL.nil ?_
 refine GE.thenN ?_
 refine GC.cond rfl (fun hq2 => ?_) (fun hq2 => ?_)
 ·replace hq2 := of_decide_eq_true hq2
  refine GC.skip ?_
  refine GE.thenN ?_
  refine GC.seq ?_
  refine GC.block ?_
  refine GC.seq ?_
  refine GC.region ?_
  refine GL.val (Ex.move rfl) (by decide) ?_
  refine GL.val (Ex.assign rfl) (by decide) ?_
  refine GL.nil ?_
  refine GE.thenN ?_
  refine GC.seq ?_
  refine GC.seq ?_
  refine GC.region ?_
  refine GL.val (Ex.move rfl) (by decide) ?_
  refine GL.val (Ex.move rfl) (by decide) ?_
  refine GL.val (v := (.int .i64 0)) (Ex.len rfl Try.underlying36) (by decide) ?_
  refine GL.val (v := (.bool false)) (Ex.cast (Ex.lss rfl rfl) (congrArg Value.bool (decide_eq_false (by omega)))) (by decide) ?_
  refine GL.nil ?_
  refine GE.thenN ?_
  refine GC.cond rfl (fun hq3 => by cases hq3) (fun _ => ?_)
  refine GC.skip ?_
  refine GE.thenN ?_
  refine GC.seq ?_
  refine GC.region ?_
  refine GL.val (Ex.move rfl) (by decide) ?_
  refine GL.val (Ex.move rfl) (by decide) ?_
  refine GL.val (v := (.pointer (some ⟨bx, i, none⟩))) (Ex.cast (Ex.indexAddr rfl rfl Try.underlying36 T.sz23 (by omega) (by omega)) (by simp)) (by decide) ?_
  refine GL.val (v := (.int .u32 (((Nd.D (0 + d) i : Nat) : Int)))) (Ex.loadO rfl T.ag23 (Nd.Nb.dig hrx (by omega)) (fun x => x)) (by decide) ?_
  refine GL.val (v := (.int .u64 (((Nd.D (0 + d) i : Nat) : Int)))) (Ex.conv rfl Try.underlying23 Try.underlying70 (Z := ((Nd.D (0 + d) i : Nat) : Int)) (wu64b (by omega))) (by decide) ?_
  refine GL.val (Ex.assign rfl) (by decide) ?_
  refine GL.nil ?_
  refine GE.thenN ?_
  refine GC.seq ?_
  refine GC.region ?_
  refine GL.val (Ex.assign rfl) (by decide) ?_
  refine GL.nil ?_
  refine GE.thenN ?_
  refine GC.seq ?_
  refine GC.seq ?_
  refine GC.region ?_
  refine GL.val (Ex.move rfl) (by decide) ?_
  refine GL.val (Ex.move rfl) (by decide) ?_
  refine GL.val (v := (.bool (decide ((((Nd.D (0 + d) i : Nat) : Int)) < (((Nd.C 0 d i : Nat) : Int)))))) (Ex.lss rfl rfl) (by decide) ?_
  refine GL.nil ?_
  refine GE.thenN ?_
  refine GC.cond rfl (fun hq4 => ?_) (fun hq4 => ?_)
  ·replace hq4 := of_decide_eq_true hq4
   refine GC.seq ?_
   refine GC.region ?_
   refine GL.val (Ex.move rfl) (by decide) ?_
   refine GL.val (v := (.int .u64 ((((Nd.D (0 + d) i : Nat) : Int)) + 4294967296))) (Ex.add rfl rfl (Z := (((Nd.D (0 + d) i : Nat) : Int)) + 4294967296) (wu64b (by omega))) (by decide) ?_
   refine GL.val (Ex.assign rfl) (by decide) ?_
   refine GL.nil ?_
   refine GE.thenN ?_
   refine GC.region ?_
   refine GL.val (Ex.assign rfl) (by decide) ?_
   refine GL.nil ?_
   refine GE.thenN ?_
   refine GC.region ?_
   refine GL.val (Ex.move rfl) (by decide) ?_
   refine GL.val (Ex.move rfl) (by decide) ?_
   refine GL.val (Ex.move rfl) (by decide) ?_
   refine GL.val (Ex.move rfl) (by decide) ?_
   refine GL.val (v := (.int .u64 (((((Nd.D (0 + d) i : Nat) : Int)) + 4294967296) - (((Nd.C 0 d i : Nat) : Int))))) (Ex.sub' rfl rfl (Z := ((((Nd.D (0 + d) i : Nat) : Int)) + 4294967296) - (((Nd.C 0 d i : Nat) : Int))) (wu64b (by omega))) (by decide) ?_
   refine GL.val (v := (.int .u32 (((Nd.D d i : Nat) : Int)))) (Ex.conv rfl Try.underlying70 Try.underlying23 (Z := ((Nd.D d i : Nat) : Int)) (by rw [wu32]; omega)) (by decide) ?_
   refine GL.val (v := (.pointer (some ⟨bq1, i, none⟩))) (Ex.cast (Ex.indexAddr rfl rfl Try.underlying36 T.sz23 (by omega) (by omega)) (by simp)) (by decide) ?_
   refine GL.step (Stp.storeL (i := 0) (cs := (Nd.dl ((Nd.nd (0 + d))) (d % Nd.Bs ^ i)).map u32) (vs := [(.int .u32 (((Nd.D d i : Nat) : Int)))]) (o := i) (L1 := [⟨bq1, (Nd.dl ((Nd.nd (0 + d))) (d % Nd.Bs ^ (i + 1))).map u32, 23, true⟩]) rfl rfl rfl T.sz23 rfl (Nat.ble_eq_true_of_le (show i + 1 ≤ _ by rw [Nd.dl_mlen]; omega)) rfl (by rw [Nd.st_next (by omega) rfl]; rfl)) (fun _ _ => ?_)
   refine GL.nil ?_
   refine GE.blockN ?_
   refine GE.thenN ?_
   refine GC.region ?_
   refine GL.val (Ex.move rfl) (by decide) ?_
   refine GL.val (v := (.int .i64 (((i + 1 : Nat) : Int)))) (Ex.add rfl rfl (Z := ((i + 1 : Nat) : Int)) (w64 (by omega))) (by decide) ?_
   refine GL.val (Ex.assign rfl) (by decide) ?_
   refine GL.nil ?_
   refine GE.thenN ?_
   exact Head.mk (i + 1) (by omega) (by omega) ((sub_cons rfl ((sub_cons rfl ((sub_cons rfl ((sub_cons rfl ((sub_cons (congrArg (fun q => some (Value.int .u64 q)) (by omega)) ((sub_cons rfl ((sub_nil _)))))))))))))) (ulC ulN)
  ·replace hq4 := of_decide_eq_false hq4
   refine GC.skip ?_
   refine GE.thenN ?_
   refine GC.region ?_
   refine GL.val (Ex.move rfl) (by decide) ?_
   refine GL.val (Ex.move rfl) (by decide) ?_
   refine GL.val (Ex.move rfl) (by decide) ?_
   refine GL.val (Ex.move rfl) (by decide) ?_
   refine GL.val (v := (.int .u64 ((((Nd.D (0 + d) i : Nat) : Int)) - (((Nd.C 0 d i : Nat) : Int))))) (Ex.sub' rfl rfl (Z := (((Nd.D (0 + d) i : Nat) : Int)) - (((Nd.C 0 d i : Nat) : Int))) (wu64b (by omega))) (by decide) ?_
   refine GL.val (v := (.int .u32 (((Nd.D d i : Nat) : Int)))) (Ex.conv rfl Try.underlying70 Try.underlying23 (Z := ((Nd.D d i : Nat) : Int)) (by rw [wu32]; omega)) (by decide) ?_
   refine GL.val (v := (.pointer (some ⟨bq1, i, none⟩))) (Ex.cast (Ex.indexAddr rfl rfl Try.underlying36 T.sz23 (by omega) (by omega)) (by simp)) (by decide) ?_
   refine GL.step (Stp.storeL (i := 0) (cs := (Nd.dl ((Nd.nd (0 + d))) (d % Nd.Bs ^ i)).map u32) (vs := [(.int .u32 (((Nd.D d i : Nat) : Int)))]) (o := i) (L1 := [⟨bq1, (Nd.dl ((Nd.nd (0 + d))) (d % Nd.Bs ^ (i + 1))).map u32, 23, true⟩]) rfl rfl rfl T.sz23 rfl (Nat.ble_eq_true_of_le (show i + 1 ≤ _ by rw [Nd.dl_mlen]; omega)) rfl (by rw [Nd.st_next (by omega) rfl]; rfl)) (fun _ _ => ?_)
   refine GL.nil ?_
   refine GE.blockN ?_
   refine GE.thenN ?_
   refine GC.region ?_
   refine GL.val (Ex.move rfl) (by decide) ?_
   refine GL.val (v := (.int .i64 (((i + 1 : Nat) : Int)))) (Ex.add rfl rfl (Z := ((i + 1 : Nat) : Int)) (w64 (by omega))) (by decide) ?_
   refine GL.val (Ex.assign rfl) (by decide) ?_
   refine GL.nil ?_
   refine GE.thenN ?_
   exact Head.mk (i + 1) (by omega) (by omega) ((sub_cons rfl ((sub_cons rfl ((sub_cons rfl ((sub_cons rfl ((sub_cons (congrArg (fun q => some (Value.int .u64 q)) (by omega)) ((sub_cons rfl ((sub_nil _)))))))))))))) (ulC ulN)
 ·replace hq2 := of_decide_eq_false hq2
  refine GC.exit ?_
  refine GE.thenE ?_
  refine GE.thenE ?_
  refine GE.blockE ?_
  refine GE.thenN ?_
  refine GC.seq ?_
  have hin : i = (Nd.nd (0 + d)) := by omega
  rw [hin, Nd.mod_all (Nat.lt_of_le_of_lt (Nat.le_add_left d 0) Nd.nd_lt)]
  refine GC.region ?_
  refine GL.val (Ex.move rfl) (by decide) ?_
  refine GL.step (Stp.callR (vs := [(.slice (some ⟨bq1, 0, none⟩) ((Nd.nd (0 + d))) ((Nd.nd (0 + d))))]) rfl rfl T.own63 (by decide) (fun wc hw => trim_g bq1 ((Nd.nd (0 + d))) d wc (by omega) (Nat.lt_of_le_of_lt (Nat.le_add_left d 0) Nd.nd_lt) (Has.cons (hw.hasOf (i := 0) rfl) (Has.nil _)))) (fun xq5 hq6 => ?_)
  refine GL.val (Ex.assign rfl) (by decide) ?_
  refine GL.nil ?_
  refine GE.thenN ?_
  refine GC.ret ?_
  refine GC.ret1 rfl (Rv.tmp rfl) (fun wN HN => ?_)
  exact HN.ret bq1 trivial rfl (ulC ulN) rfl

set_option maxRecDepth 100000 in
set_option maxHeartbeats 1000000 in
theorem times5 (x bx cx : Nat) (w : World) (hrx : Nd.Nb w bx x) (hnx : Nd.nd x ≤ 1000) :
  Calls Try.prog 32 #[(.slice (some ⟨bx, 0, none⟩) ((Nd.nd x)) cx), (.int .u32 5)] w (Ret w (fun _ : Nat => True) (fun z' => (.slice (some ⟨z', 0, none⟩) ((Nd.nd (x * 5))) ((Nd.nd x + 1)))) (fun z' => [⟨z', (Nd.dl ((Nd.nd x + 1)) (x * 5)).map u32, 23, true⟩])) := by
 refine enter (M := None) (L := []) (n := 45) (l := [(0, (.slice (some ⟨bx, 0, none⟩) ((Nd.nd x)) cx)), (1, (.int .u32 5))]) Try.func32 rfl rfl (Args.cons rfl (Args.cons rfl (Args.nil _))) (Hp.start _ _) ?_
 refine GC.seq ?_
 refine GC.region ?_
 refine GL.val (Ex.assign rfl) (by decide) ?_
 refine GL.nil ?_
 refine GE.thenN ?_
 refine GC.seq ?_
 refine GC.region ?_
 refine GL.val (Ex.move rfl) (by decide) ?_
 refine GL.val (v := (.int .i64 ((((Nd.nd x)) : Int)))) (Ex.len rfl Try.underlying36) (by decide) ?_
 refine GL.val (v := (.int .i64 (((Nd.nd x + 1 : Nat) : Int)))) (Ex.add rfl rfl (Z := ((Nd.nd x + 1 : Nat) : Int)) (w64 (by omega))) (by decide) ?_
 refine GL.step (Stp.makeSlice (a1 := (Nd.nd x + 1)) (c := (Nd.nd x + 1)) rfl rfl Try.underlying36 T.zr23 T.sz23 T.by23 rfl (Nat.le_refl _) (by omega) (by omega) (by decide)) (fun bq1 _ => ?_)
 rw [madeOne, Nd.rep_0 (Nd.nd x + 1) (x * 5)]
 refine GL.val (Ex.assign rfl) (by decide) ?_
 refine GL.nil ?_
 refine GE.thenN ?_
 refine GC.seq ?_
 refine GC.region ?_
 refine GL.val (v := (.int .u64 (((Nd.M x 5 0 : Nat) : Int)))) (Ex.cast (Ex.assign rfl) (show Value.int .u64 0 = Value.int .u64 ((Nd.M x 5 0 : Nat) : Int) by rw [Nd.M_zero]; rfl)) (by decide) ?_
 refine GL.nil ?_
 refine GE.thenN ?_
 refine GC.seq ?_
 refine GC.seq ?_
 refine GC.region ?_
 refine GL.val (Ex.assign rfl) (by decide) ?_
 refine GL.nil ?_
 refine GE.thenN ?_
 refine GC.block ?_
 refine GC.loop (σ := Nat) (fun i => i ≤ Nd.nd x) (fun i => [(0, (.slice (some ⟨bx, 0, none⟩) ((Nd.nd x)) cx)), (1, (.int .u32 5)), (4, (.slice none 0 0)), (5, (.slice (some ⟨bq1, 0, none⟩) ((Nd.nd x + 1)) ((Nd.nd x + 1)))), (6, (.int .u64 (((Nd.M x 5 i : Nat) : Int)))), (7, (.int .i64 (((i : Nat) : Int))))]) (fun i => [⟨bq1, (Nd.dl ((Nd.nd x + 1)) (x * 5 % Nd.Bs ^ i)).map u32, 23, true⟩]) (fun i => Nd.nd x - i) (0) (Nat.zero_le _) ((sub_cons rfl ((sub_cons rfl ((sub_cons rfl ((sub_cons rfl ((sub_cons rfl ((sub_cons rfl ((sub_nil _)))))))))))))) (ulC ulN) (fun i hp => ?_)
 have hpi : i ≤ Nd.nd x := hp
 obtain ⟨f1, f2, f3, f5, f6⟩ := Nd.mul_facts x 5 i
 refine GC.seq ?_
 refine GC.seq ?_
 refine GC.region ?_
 refine GL.val (Ex.move rfl) (by decide) ?_
 refine GL.val (Ex.move rfl) (by decide) ?_
 refine GL.val (v := (.int .i64 ((((Nd.nd x)) : Int)))) (Ex.len rfl Try.underlying36) (by decide) ?_
 refine GL.val (v := (.bool (decide ((((i : Nat) : Int)) < ((((Nd.nd x)) : Int)))))) (Ex.lss rfl rfl) (by decide) ?_
 refine GL.nil ?_
 refine GE.thenN ?_
 refine GC.cond rfl (fun hq2 => ?_) (fun hq2 => ?_)
 ·replace hq2 := of_decide_eq_true hq2
  refine GC.skip ?_
  refine GE.thenN ?_
  refine GC.seq ?_
  refine GC.block ?_
  refine GC.seq ?_
  refine GC.region ?_
  refine GL.val (Ex.move rfl) (by decide) ?_
  refine GL.val (Ex.move rfl) (by decide) ?_
  refine GL.val (v := (.pointer (some ⟨bx, i, none⟩))) (Ex.cast (Ex.indexAddr rfl rfl Try.underlying36 T.sz23 (by omega) (by omega)) (by simp)) (by decide) ?_
  refine GL.val (v := (.int .u32 (((Nd.D x i : Nat) : Int)))) (Ex.loadO rfl T.ag23 (Nd.Nb.dig hrx (by omega)) (fun x => x)) (by decide) ?_
  refine GL.val (v := (.int .u64 (((Nd.D x i : Nat) : Int)))) (Ex.conv rfl Try.underlying23 Try.underlying70 (Z := ((Nd.D x i : Nat) : Int)) (wu64b (by omega))) (by decide) ?_
  refine GL.val (Ex.move rfl) (by decide) ?_
  refine GL.val (v := (.int .u64 5)) (Ex.conv rfl Try.underlying23 Try.underlying70 (Z := 5) (wu64b (by omega))) (by decide) ?_
  refine GL.val (v := (.int .u64 ((((Nd.D x i : Nat) : Int)) * 5))) (Ex.mul rfl rfl (Z := (((Nd.D x i : Nat) : Int)) * 5) (wu64b (by omega))) (by decide) ?_
  refine GL.val (Ex.move rfl) (by decide) ?_
  refine GL.val (v := (.int .u64 (((((Nd.D x i : Nat) : Int)) * 5) + (((Nd.M x 5 i : Nat) : Int))))) (Ex.add rfl rfl (Z := ((((Nd.D x i : Nat) : Int)) * 5) + (((Nd.M x 5 i : Nat) : Int))) (wu64b (by omega))) (by decide) ?_
  refine GL.val (Ex.assign rfl) (by decide) ?_
  refine GL.nil ?_
  refine GE.thenN ?_
  refine GC.seq ?_
  refine GC.region ?_
  refine GL.val (Ex.move rfl) (by decide) ?_
  refine GL.val (Ex.move rfl) (by decide) ?_
  refine GL.val (Ex.move rfl) (by decide) ?_
  refine GL.val (v := (.int .u64 (((Nd.D (x * 5) i : Nat) : Int)))) (Ex.bits rfl rfl (by simp) (Z := ((Nd.D (x * 5) i : Nat) : Int)) (andm64 32 (by omega) (by omega) (by omega) (by omega) rfl)) (by decide) ?_
  refine GL.val (v := (.int .u32 (((Nd.D (x * 5) i : Nat) : Int)))) (Ex.conv rfl Try.underlying70 Try.underlying23 (Z := ((Nd.D (x * 5) i : Nat) : Int)) (wu32b (by omega))) (by decide) ?_
  refine GL.val (v := (.pointer (some ⟨bq1, i, none⟩))) (Ex.cast (Ex.indexAddr rfl rfl Try.underlying36 T.sz23 (by omega) (by omega)) (by simp)) (by decide) ?_
  refine GL.step (Stp.storeL (i := 0) (cs := (Nd.dl ((Nd.nd x + 1)) (x * 5 % Nd.Bs ^ i)).map u32) (vs := [(.int .u32 (((Nd.D (x * 5) i : Nat) : Int)))]) (o := i) (L1 := [⟨bq1, (Nd.dl ((Nd.nd x + 1)) (x * 5 % Nd.Bs ^ (i + 1))).map u32, 23, true⟩]) rfl rfl rfl T.sz23 rfl (Nat.ble_eq_true_of_le (show i + 1 ≤ _ by rw [Nd.dl_mlen]; omega)) rfl (by rw [Nd.st_next (by omega) rfl]; rfl)) (fun _ _ => ?_)
  refine GL.nil ?_
  refine GE.thenN ?_
  refine GC.region ?_
  refine GL.val (Ex.move rfl) (by decide) ?_
  refine GL.val (v := (.int .u64 (((Nd.M x 5 (i + 1) : Nat) : Int)))) (Ex.shr rfl (m := 32) rfl (by decide) (Z := ((Nd.M x 5 (i + 1) : Nat) : Int)) (by omega)) (by decide) ?_
  refine GL.val (Ex.assign rfl) (by decide) ?_
  refine GL.nil ?_
  refine GE.blockN ?_
  refine GE.thenN ?_
  refine GC.region ?_
  refine GL.val (Ex.move rfl) (by decide) ?_
  refine GL.val (v := (.int .i64 (((i + 1 : Nat) : Int)))) (Ex.add rfl rfl (Z := ((i + 1 : Nat) : Int)) (w64 (by omega))) (by decide) ?_
  refine GL.val (Ex.assign rfl) (by decide) ?_
  refine GL.nil ?_
  refine GE.thenN ?_
  exact Head.mk (i + 1) (by omega) (by omega) ((sub_cons rfl ((sub_cons rfl ((sub_cons rfl ((sub_cons rfl ((sub_cons rfl ((sub_cons rfl ((sub_nil _)))))))))))))) (ulC ulN)
 ·replace hq2 := of_decide_eq_false hq2
  refine GC.exit ?_
  refine GE.thenE ?_
  refine GE.thenE ?_
  refine GE.blockE ?_
  refine GE.thenN ?_
  refine GC.seq ?_
  have hin : i = Nd.nd x := by omega
  have hme := Nd.M_end (V := x) (k := 5) (Nat.le_refl _) (by decide)
  rw [hin, hme]
  have f7 := Nd.D_lt' (x * 5) (Nd.nd x)
  refine GC.region ?_
  refine GL.val (Ex.move rfl) (by decide) ?_
  refine GL.val (Ex.move rfl) (by decide) ?_
  refine GL.val (v := (.int .i64 ((((Nd.nd x)) : Int)))) (Ex.len rfl Try.underlying36) (by decide) ?_
  refine GL.val (Ex.move rfl) (by decide) ?_
  refine GL.val (v := (.int .u32 (((Nd.D (x * 5) (Nd.nd x) : Nat) : Int)))) (Ex.conv rfl Try.underlying70 Try.underlying23 (Z := ((Nd.D (x * 5) (Nd.nd x) : Nat) : Int)) (wu32b (by omega))) (by decide) ?_
  refine GL.val (v := (.pointer (some ⟨bq1, Nd.nd x, none⟩))) (Ex.cast (Ex.indexAddr rfl rfl Try.underlying36 T.sz23 (by omega) (by omega)) (by simp only [Int.toNat_natCast, Nat.mul_one, Nat.zero_add])) (by decide) ?_
  refine GL.step (Stp.storeL (i := 0) (cs := (Nd.dl ((Nd.nd x + 1)) (x * 5 % Nd.Bs ^ (Nd.nd x))).map u32) (vs := [(.int .u32 (((Nd.D (x * 5) (Nd.nd x) : Nat) : Int)))]) (o := Nd.nd x) (L1 := [⟨bq1, (Nd.dl ((Nd.nd x + 1)) (x * 5 % Nd.Bs ^ (Nd.nd x + 1))).map u32, 23, true⟩]) rfl rfl rfl T.sz23 rfl (Nat.ble_eq_true_of_le (show Nd.nd x + 1 ≤ _ by rw [Nd.dl_mlen]; omega)) rfl (by rw [Nd.st_next (by omega) rfl]; rfl)) (fun _ _ => ?_)
  refine GL.nil ?_
  refine GE.thenN ?_
  refine GC.seq ?_
  rw [Nd.mod_all (Nd.mul_lt (by decide))]
  refine GC.region ?_
  refine GL.val (Ex.move rfl) (by decide) ?_
  refine GL.step (Stp.callR (vs := [(.slice (some ⟨bq1, 0, none⟩) ((Nd.nd x + 1)) ((Nd.nd x + 1)))]) rfl rfl T.own63 (by decide) (fun wc hw => trim_g bq1 ((Nd.nd x + 1)) (x * 5) wc (by omega) (Nd.mul_lt (by decide)) (Has.cons (hw.hasOf (i := 0) rfl) (Has.nil _)))) (fun xq3 hq4 => ?_)
  refine GL.val (Ex.assign rfl) (by decide) ?_
  refine GL.nil ?_
  refine GE.thenN ?_
  refine GC.ret ?_
  refine GC.ret1 rfl (Rv.tmp rfl) (fun wN HN => ?_)
  exact HN.ret bq1 trivial rfl (ulC ulN) rfl

set_option maxRecDepth 100000 in
set_option maxHeartbeats 1000000 in
theorem up_b (x bx cx : Nat) (n l : Nat) (w : World) (hrx : Nd.Nb w bx x) (hnx : Nd.nd x ≤ 1000) (hx0 : 0 < x) (hn : n ≤ 100000) (hl : l = Nd.nd x + n / 32 + 1) :
  Calls Try.prog 61 #[(.slice (some ⟨bx, 0, none⟩) ((Nd.nd x)) cx), (.int .i64 (((n : Nat) : Int)))] w (Ret w (fun _ : Nat => True) (fun z' => (.slice (some ⟨z', 0, none⟩) ((Nd.nd (x * 2 ^ n))) l)) (fun z' => [⟨z', (Nd.dl l (x * 2 ^ n)).map u32, 23, true⟩])) := by
 have hxn : 0 < Nd.nd x := Nat.pos_of_ne_zero (fun q => by have := Nd.nd_lt (V := x); rw [q] at this; simp at this; omega)
 refine enter (M := None) (L := []) (n := 61) (l := [(0, (.slice (some ⟨bx, 0, none⟩) ((Nd.nd x)) cx)), (1, (.int .i64 (((n : Nat) : Int))))]) Try.func61 rfl rfl (Args.cons rfl (Args.cons rfl (Args.nil _))) (Hp.start _ _) ?_
 refine GC.seq ?_
 refine GC.region ?_
 refine GL.val (Ex.assign rfl) (by decide) ?_
 refine GL.nil ?_
 refine GE.thenN ?_
 refine GC.seq ?_
 refine GC.seq ?_
 refine GC.region ?_
 refine GL.val (Ex.move rfl) (by decide) ?_
 refine GL.val (v := (.int .i64 ((((Nd.nd x)) : Int)))) (Ex.len rfl Try.underlying36) (by decide) ?_
 refine GL.val (v := (.bool false)) (Ex.cast (Ex.eql rfl rfl) (congrArg Value.bool (decide_eq_false (by omega)))) (by decide) ?_
 refine GL.nil ?_
 refine GE.thenN ?_
 refine GC.cond rfl (fun hq1 => by cases hq1) (fun _ => ?_)
 refine GC.skip ?_
 refine GE.thenN ?_
 refine GC.seq ?_
 refine GC.region ?_
 refine GL.val (Ex.move rfl) (by decide) ?_
 refine GL.val (v := (.int .i64 ((((Nd.nd x)) : Int)))) (Ex.len rfl Try.underlying36) (by decide) ?_
 refine GL.val (Ex.move rfl) (by decide) ?_
 refine GL.val (v := (.int .i64 (((n / 32 : Nat) : Int)))) (Ex.quo rfl rfl (Z := ((n / 32 : Nat) : Int)) (by decide) (quoN (by omega))) (by decide) ?_
 refine GL.val (v := (.int .i64 (((((Nd.nd x)) : Int)) + (((n / 32 : Nat) : Int))))) (Ex.add rfl rfl (Z := ((((Nd.nd x)) : Int)) + (((n / 32 : Nat) : Int))) (w64 (by omega))) (by decide) ?_
 refine GL.val (v := (.int .i64 (((l : Nat) : Int)))) (Ex.add rfl rfl (Z := ((l : Nat) : Int)) (by rw [w64 (by omega)]; omega)) (by decide) ?_
 refine GL.step (Stp.makeSlice (a1 := l) (c := l) rfl rfl Try.underlying36 T.zr23 T.sz23 T.by23 rfl (Nat.le_refl _) (by omega) (by omega) (by decide)) (fun bq2 _ => ?_)
 rw [madeOne, Nd.rep_U l x n]
 refine GL.val (Ex.assign rfl) (by decide) ?_
 refine GL.nil ?_
 refine GE.thenN ?_
 refine GC.seq ?_
 refine GC.seq ?_
 refine GC.region ?_
 refine GL.val (Ex.assign rfl) (by decide) ?_
 refine GL.nil ?_
 refine GE.thenN ?_
 refine GC.block ?_
 refine GC.loop (σ := Nat) (fun i => i ≤ Nd.nd x) (fun i => [(0, (.slice (some ⟨bx, 0, none⟩) ((Nd.nd x)) cx)), (1, (.int .i64 (((n : Nat) : Int)))), (4, (.slice none 0 0)), (5, (.slice (some ⟨bq2, 0, none⟩) l l)), (6, (.int .i64 (((i : Nat) : Int))))]) (fun i => [⟨bq2, (Nd.dl l (Nd.U x n i)).map u32, 23, true⟩]) (fun i => Nd.nd x - i) (0) (Nat.zero_le _) ((sub_cons rfl ((sub_cons rfl ((sub_cons rfl ((sub_cons rfl ((sub_cons rfl ((sub_nil _)))))))))))) (ulC ulN) (fun i hp => ?_)
 have hpi : i ≤ Nd.nd x := hp
 obtain ⟨X, hX⟩ : ∃ X, X = Nd.D x i * 2 ^ (n % 32) := ⟨_, rfl⟩
 have hx64 : X < 18446744073709551616 := by rw [hX]; exact Nd.up_x64
 have f1 := Nd.D_lt' x i
 refine GC.seq ?_
 refine GC.seq ?_
 refine GC.region ?_
 refine GL.val (Ex.move rfl) (by decide) ?_
 refine GL.val (Ex.move rfl) (by decide) ?_
 refine GL.val (v := (.int .i64 ((((Nd.nd x)) : Int)))) (Ex.len rfl Try.underlying36) (by decide) ?_
 refine GL.val (v := (.bool (decide ((((i : Nat) : Int)) < ((((Nd.nd x)) : Int)))))) (Ex.lss rfl rfl) (by decide) ?_
 refine GL.nil ?_
 refine GE.thenN ?_
 refine GC.cond rfl (fun hq3 => ?_) (fun hq3 => ?_)
 ·replace hq3 := of_decide_eq_true hq3
  refine GC.skip ?_
  refine GE.thenN ?_
  refine GC.seq ?_
  refine GC.block ?_
  refine GC.seq ?_
  refine GC.region ?_
  refine GL.val (Ex.move rfl) (by decide) ?_
  refine GL.val (Ex.move rfl) (by decide) ?_
  refine GL.val (v := (.pointer (some ⟨bx, i, none⟩))) (Ex.cast (Ex.indexAddr rfl rfl Try.underlying36 T.sz23 (by omega) (by omega)) (by simp)) (by decide) ?_
  refine GL.val (v := (.int .u32 (((Nd.D x i : Nat) : Int)))) (Ex.loadO rfl T.ag23 (Nd.Nb.dig hrx (by omega)) (fun x => x)) (by decide) ?_
  refine GL.val (v := (.int .u64 (((Nd.D x i : Nat) : Int)))) (Ex.conv rfl Try.underlying23 Try.underlying70 (Z := ((Nd.D x i : Nat) : Int)) (wu64b (by omega))) (by decide) ?_
  refine GL.val (Ex.move rfl) (by decide) ?_
  refine GL.val (v := (.int .i64 (((n % 32 : Nat) : Int)))) (Ex.rem rfl rfl (Z := ((n % 32 : Nat) : Int)) (by decide) (by rw [Int.tmod_eq_emod_of_nonneg (by omega)]; omega)) (by decide) ?_
  refine GL.val (v := (.int .u64 (((X : Nat) : Int)))) (Ex.shl rfl (m := n % 32) rfl (by show n % 32 ≤ 64; omega) (Z := ((X : Nat) : Int)) (by rw [hX]; exact Lg.shl_nat (v := Nd.D x i) (i := n % 32) Nd.up_x64)) (by decide) ?_
  refine GL.val (Ex.assign rfl) (by decide) ?_
  refine GL.nil ?_
  refine GE.thenN ?_
  refine GC.seq ?_
  refine GC.region ?_
  refine GL.val (Ex.move rfl) (by decide) ?_
  refine GL.val (Ex.move rfl) (by decide) ?_
  refine GL.val (Ex.move rfl) (by decide) ?_
  refine GL.val (v := (.int .i64 (((n / 32 : Nat) : Int)))) (Ex.quo rfl rfl (Z := ((n / 32 : Nat) : Int)) (by decide) (quoN (by omega))) (by decide) ?_
  refine GL.val (v := (.int .i64 (((i + n / 32 : Nat) : Int)))) (Ex.add rfl rfl (Z := ((i + n / 32 : Nat) : Int)) (w64 (by omega))) (by decide) ?_
  refine GL.val (Ex.move rfl) (by decide) ?_
  refine GL.val (Ex.move rfl) (by decide) ?_
  refine GL.val (Ex.move rfl) (by decide) ?_
  refine GL.val (v := (.int .i64 (((n / 32 : Nat) : Int)))) (Ex.quo rfl rfl (Z := ((n / 32 : Nat) : Int)) (by decide) (quoN (by omega))) (by decide) ?_
  refine GL.val (v := (.int .i64 (((i + n / 32 : Nat) : Int)))) (Ex.add rfl rfl (Z := ((i + n / 32 : Nat) : Int)) (w64 (by omega))) (by decide) ?_
  refine GL.val (v := (.pointer (some ⟨bq2, i + n / 32, none⟩))) (Ex.cast (Ex.indexAddr rfl rfl Try.underlying36 T.sz23 (by omega) (by omega)) (by simp only [Int.toNat_natCast, Nat.mul_one, Nat.zero_add])) (by decide) ?_
  refine GL.val (Ex.load rfl T.ag23 (i := 0) rfl (Nd.dl_cell' (by omega))) (by decide) ?_
  refine GL.val (Ex.move rfl) (by decide) ?_
  refine GL.val (v := (.int .u64 (((X % 4294967296 : Nat) : Int)))) (Ex.bits rfl rfl (by simp) (Z := ((X % 4294967296 : Nat) : Int)) (andm64 32 (by omega) (by omega) (by omega) (by omega) rfl)) (by decide) ?_
  refine GL.val (v := (.int .u32 (((X % 4294967296 : Nat) : Int)))) (Ex.conv rfl Try.underlying70 Try.underlying23 (Z := ((X % 4294967296 : Nat) : Int)) (wu32b (by omega))) (by decide) ?_
  refine GL.val (v := (.int .u32 (((Nd.D (Nd.U x n i) (i + n / 32) + X % 4294967296 : Nat) : Int)))) (Ex.bits rfl rfl (by simp) (Z := ((Nd.D (Nd.U x n i) (i + n / 32) + X % 4294967296 : Nat) : Int)) (by rw [hX]; exact Nd.up_or)) (by decide) ?_
  refine GL.val (v := (.pointer (some ⟨bq2, i + n / 32, none⟩))) (Ex.cast (Ex.indexAddr rfl rfl Try.underlying36 T.sz23 (by omega) (by omega)) (by simp only [Int.toNat_natCast, Nat.mul_one, Nat.zero_add])) (by decide) ?_
  refine GL.step (Stp.storeL (i := 0) (cs := (Nd.dl l (Nd.U x n i)).map u32) (vs := [(.int .u32 (((Nd.D (Nd.U x n i) (i + n / 32) + X % 4294967296 : Nat) : Int)))]) (o := i + n / 32) (L1 := [⟨bq2, (Nd.dl l (Nd.U1 x n i)).map u32, 23, true⟩]) rfl rfl rfl T.sz23 rfl (Nat.ble_eq_true_of_le (show i + n / 32 + 1 ≤ _ by rw [Nd.dl_mlen]; omega)) rfl (by rw [hX, Nd.st_up1 (by omega)]; rfl)) (fun _ _ => ?_)
  refine GL.nil ?_
  refine GE.thenN ?_
  refine GC.region ?_
  refine GL.val (Ex.move rfl) (by decide) ?_
  refine GL.val (Ex.move rfl) (by decide) ?_
  refine GL.val (Ex.move rfl) (by decide) ?_
  refine GL.val (v := (.int .i64 (((n / 32 : Nat) : Int)))) (Ex.quo rfl rfl (Z := ((n / 32 : Nat) : Int)) (by decide) (quoN (by omega))) (by decide) ?_
  refine GL.val (v := (.int .i64 (((i + n / 32 : Nat) : Int)))) (Ex.add rfl rfl (Z := ((i + n / 32 : Nat) : Int)) (w64 (by omega))) (by decide) ?_
  refine GL.val (v := (.int .i64 (((i + n / 32 + 1 : Nat) : Int)))) (Ex.add rfl rfl (Z := ((i + n / 32 + 1 : Nat) : Int)) (w64 (by omega))) (by decide) ?_
  refine GL.val (Ex.move rfl) (by decide) ?_
  refine GL.val (v := (.int .u64 (((X / 4294967296 : Nat) : Int)))) (Ex.shr rfl (m := 32) rfl (by decide) (Z := ((X / 4294967296 : Nat) : Int)) (by omega)) (by decide) ?_
  refine GL.val (v := (.int .u32 (((X / 4294967296 : Nat) : Int)))) (Ex.conv rfl Try.underlying70 Try.underlying23 (Z := ((X / 4294967296 : Nat) : Int)) (wu32b (by omega))) (by decide) ?_
  refine GL.val (v := (.pointer (some ⟨bq2, i + n / 32 + 1, none⟩))) (Ex.cast (Ex.indexAddr rfl rfl Try.underlying36 T.sz23 (by omega) (by omega)) (by simp only [Int.toNat_natCast, Nat.mul_one, Nat.zero_add])) (by decide) ?_
  refine GL.step (Stp.storeL (i := 0) (cs := (Nd.dl l (Nd.U1 x n i)).map u32) (vs := [(.int .u32 (((X / 4294967296 : Nat) : Int)))]) (o := i + n / 32 + 1) (L1 := [⟨bq2, (Nd.dl l (Nd.U x n (i + 1))).map u32, 23, true⟩]) rfl rfl rfl T.sz23 rfl (Nat.ble_eq_true_of_le (show i + n / 32 + 1 + 1 ≤ _ by rw [Nd.dl_mlen]; omega)) rfl (by rw [hX, Nd.st_up2 (by omega)]; rfl)) (fun _ _ => ?_)
  refine GL.nil ?_
  refine GE.blockN ?_
  refine GE.thenN ?_
  refine GC.region ?_
  refine GL.val (Ex.move rfl) (by decide) ?_
  refine GL.val (v := (.int .i64 (((i + 1 : Nat) : Int)))) (Ex.add rfl rfl (Z := ((i + 1 : Nat) : Int)) (w64 (by omega))) (by decide) ?_
  refine GL.val (Ex.assign rfl) (by decide) ?_
  refine GL.nil ?_
  refine GE.thenN ?_
  exact Head.mk (i + 1) (by omega) (by omega) ((sub_cons rfl ((sub_cons rfl ((sub_cons rfl ((sub_cons rfl ((sub_cons rfl ((sub_nil _)))))))))))) (ulC ulN)
 ·replace hq3 := of_decide_eq_false hq3
  refine GC.exit ?_
  refine GE.thenE ?_
  refine GE.thenE ?_
  refine GE.blockE ?_
  refine GE.thenN ?_
  refine GC.seq ?_
  have hin : i = Nd.nd x := by omega
  rw [hin, Nd.U_end]
  refine GC.region ?_
  refine GL.val (Ex.move rfl) (by decide) ?_
  refine GL.step (Stp.callR (vs := [(.slice (some ⟨bq2, 0, none⟩) l l)]) rfl rfl T.own63 (by decide) (fun wc hw => trim_g bq2 l (x * 2 ^ n) wc (by omega) (by rw [hl]; exact Nd.up_lt) (Has.cons (hw.hasOf (i := 0) rfl) (Has.nil _)))) (fun xq4 hq5 => ?_)
  refine GL.val (Ex.assign rfl) (by decide) ?_
  refine GL.nil ?_
  refine GE.thenN ?_
  refine GC.ret ?_
  refine GC.ret1 rfl (Rv.tmp rfl) (fun wN HN => ?_)
  exact HN.ret bq2 trivial rfl (ulC ulN) rfl

theorem cmpV_bb (x bx cx : Nat) (z bz cz : Nat) (w : World) (hrx : Nd.Nb w bx x) (hnx : Nd.nd x ≤ 1000) (hrz : Nd.Nb w bz z) (hnz : Nd.nd z ≤ 1000) : Calls Try.prog 60 #[(.slice (some ⟨bx, 0, none⟩) ((Nd.nd x)) cx), (.slice (some ⟨bz, 0, none⟩) ((Nd.nd z)) cz)] w (Ret w (fun _ : Unit => True) (fun _ => (.int .i64 ((if x < z then (-1 : Int) else if x = z then 0 else 1)))) (fun _ => [])) := by
 exact cmp_bb x bx cx z bz cz w hrx hnx hrz hnz

theorem plusV_bb (x bx cx : Nat) (z bz cz : Nat) (n : Nat) (w : World) (hrx : Nd.Nb w bx x) (hnx : Nd.nd x ≤ 1000) (hrz : Nd.Nb w bz z) (hnz : Nd.nd z ≤ 1000) (hn : n = max (Nd.nd x) (Nd.nd z) + 1) : Calls Try.prog 64 #[(.slice (some ⟨bx, 0, none⟩) ((Nd.nd x)) cx), (.slice (some ⟨bz, 0, none⟩) ((Nd.nd z)) cz)] w (Ret w (fun _ : Nat => True) (fun z' => (.slice (some ⟨z', 0, none⟩) ((Nd.nd (x + z))) n)) (fun z' => [⟨z', (Nd.dl n (x + z)).map u32, 23, true⟩])) := by
 exact plus_bb x bx cx z bz cz n w hrx hnx hrz hnz hn

theorem cmpV_bn (x bx cx : Nat) (z : Nat) (adz : Option Addr) (cz : Nat) (w : World) (hrx : Nd.Nb w bx x) (hnx : Nd.nd x ≤ 1000) (h0z : z = 0) : Calls Try.prog 60 #[(.slice (some ⟨bx, 0, none⟩) ((Nd.nd x)) cx), (.slice adz 0 cz)] w (Ret w (fun _ : Unit => True) (fun _ => (.int .i64 ((if x < z then (-1 : Int) else if x = z then 0 else 1)))) (fun _ => [])) := by
 subst h0z; exact cmp_bn x bx cx adz cz w hrx hnx 

theorem plusV_bn (x bx cx : Nat) (z : Nat) (adz : Option Addr) (cz : Nat) (n : Nat) (w : World) (hrx : Nd.Nb w bx x) (hnx : Nd.nd x ≤ 1000) (h0z : z = 0) (hn : n = max (Nd.nd x) (Nd.nd z) + 1) : Calls Try.prog 64 #[(.slice (some ⟨bx, 0, none⟩) ((Nd.nd x)) cx), (.slice adz 0 cz)] w (Ret w (fun _ : Nat => True) (fun z' => (.slice (some ⟨z', 0, none⟩) ((Nd.nd (x + z))) n)) (fun z' => [⟨z', (Nd.dl n (x + z)).map u32, 23, true⟩])) := by
 subst h0z; exact plus_bn x bx cx adz cz n w hrx hnx  hn

theorem cmpV_nb (x : Nat) (adx : Option Addr) (cx : Nat) (z bz cz : Nat) (w : World) (h0x : x = 0) (hrz : Nd.Nb w bz z) (hnz : Nd.nd z ≤ 1000) : Calls Try.prog 60 #[(.slice adx 0 cx), (.slice (some ⟨bz, 0, none⟩) ((Nd.nd z)) cz)] w (Ret w (fun _ : Unit => True) (fun _ => (.int .i64 ((if x < z then (-1 : Int) else if x = z then 0 else 1)))) (fun _ => [])) := by
 subst h0x; exact cmp_nb adx cx z bz cz w  hrz hnz

theorem plusV_nb (x : Nat) (adx : Option Addr) (cx : Nat) (z bz cz : Nat) (n : Nat) (w : World) (h0x : x = 0) (hrz : Nd.Nb w bz z) (hnz : Nd.nd z ≤ 1000) (hn : n = max (Nd.nd x) (Nd.nd z) + 1) : Calls Try.prog 64 #[(.slice adx 0 cx), (.slice (some ⟨bz, 0, none⟩) ((Nd.nd z)) cz)] w (Ret w (fun _ : Nat => True) (fun z' => (.slice (some ⟨z', 0, none⟩) ((Nd.nd (x + z))) n)) (fun z' => [⟨z', (Nd.dl n (x + z)).map u32, 23, true⟩])) := by
 subst h0x; exact plus_nb adx cx z bz cz n w  hrz hnz hn

theorem cmpV_nn (x : Nat) (adx : Option Addr) (cx : Nat) (z : Nat) (adz : Option Addr) (cz : Nat) (w : World) (h0x : x = 0) (h0z : z = 0) : Calls Try.prog 60 #[(.slice adx 0 cx), (.slice adz 0 cz)] w (Ret w (fun _ : Unit => True) (fun _ => (.int .i64 ((if x < z then (-1 : Int) else if x = z then 0 else 1)))) (fun _ => [])) := by
 subst h0x; subst h0z; exact cmp_nn adx cx adz cz w  

theorem plusV_nn (x : Nat) (adx : Option Addr) (cx : Nat) (z : Nat) (adz : Option Addr) (cz : Nat) (n : Nat) (w : World) (h0x : x = 0) (h0z : z = 0) (hn : n = max (Nd.nd x) (Nd.nd z) + 1) : Calls Try.prog 64 #[(.slice adx 0 cx), (.slice adz 0 cz)] w (Ret w (fun _ : Nat => True) (fun z' => (.slice (some ⟨z', 0, none⟩) ((Nd.nd (x + z))) n)) (fun z' => [⟨z', (Nd.dl n (x + z)).map u32, 23, true⟩])) := by
 subst h0x; subst h0z; exact plus_nn adx cx adz cz n w   hn

theorem minusV_bb (x bx cx : Nat) (z bz cz : Nat) (w : World) (hrx : Nd.Nb w bx x) (hnx : Nd.nd x ≤ 1000) (hrz : Nd.Nb w bz z) (hnz : Nd.nd z ≤ 1000) (h : z ≤ x) : Calls Try.prog 65 #[(.slice (some ⟨bx, 0, none⟩) ((Nd.nd x)) cx), (.slice (some ⟨bz, 0, none⟩) ((Nd.nd z)) cz)] w (Ret w (fun _ : Nat => True) (fun z' => (.slice (some ⟨z', 0, none⟩) ((Nd.nd (x - z))) ((Nd.nd x)))) (fun z' => [⟨z', (Nd.dl ((Nd.nd x)) (x - z)).map u32, 23, true⟩])) := by
 obtain ⟨d, rfl⟩ : ∃ d, x = z + d := ⟨x - z, by omega⟩
 rw [Nat.add_sub_cancel_left]
 exact minus_b d bx cx z bz cz w hrx hnx hrz hnz

theorem minusV_bn (x bx cx : Nat) (z : Nat) (adz : Option Addr) (cz : Nat) (w : World) (hrx : Nd.Nb w bx x) (hnx : Nd.nd x ≤ 1000) (h0z : z = 0) (h : z ≤ x) : Calls Try.prog 65 #[(.slice (some ⟨bx, 0, none⟩) ((Nd.nd x)) cx), (.slice adz 0 cz)] w (Ret w (fun _ : Nat => True) (fun z' => (.slice (some ⟨z', 0, none⟩) ((Nd.nd (x - z))) ((Nd.nd x)))) (fun z' => [⟨z', (Nd.dl ((Nd.nd x)) (x - z)).map u32, 23, true⟩])) := by
 obtain ⟨d, rfl⟩ : ∃ d, x = z + d := ⟨x - z, by omega⟩
 rw [Nat.add_sub_cancel_left]
 subst h0z; exact minus_n d bx cx adz cz w hrx hnx 

theorem up_z (x b c n : Nat) (w : World) (h : Nd.nd x = 0) : Calls Try.prog 61 #[(.slice (some ⟨b, 0, none⟩) ((Nd.nd x)) c), (.int .i64 (((n : Nat) : Int)))] w (Ret w (fun _ : Unit => True) (fun _ => (.slice none 0 0)) (fun _ => [])) := by
 rw [h]; exact up_0 (some ⟨b, 0, none⟩) c n w

theorem natof_1 (w : World) : Calls Try.prog 62 #[.int .u64 1] w (Ret w (fun _ : Nat => True) (fun z => .slice (some ⟨z, 0, none⟩) (Nd.nd 1) 2) (fun z => [⟨z, [.int .u32 1, .int .u32 0], 23, true⟩])) := by
 rw [Nd.nd_one (by decide), if_neg (by decide)]; exact natof_pos 1 w (by decide)

theorem of_all (a : Int) (w : World) (ha : 0 ≤ a ∧ a < 4294967296) (hf : a % 2147483648 < 2139095040) : Calls Try.prog 59 #[(.agg #[(.int .i64 23), (.int .i64 8)]), .int .u64 a] w (Ret w (fun _ : Nat => True) (fun z => (.agg #[(.int .i64 2), (.bool ((decide (a / 2147483648 % 2 = 1)))), (.slice (some ⟨z, 0, none⟩) ((Nd.nd (Bt.mant a).toNat)) 2), (.int .i64 ((Bt.expo a))), (.bool false)])) (fun z => [⟨z, [(.int .u32 ((((Bt.mant a).toNat : Nat) : Int))), (.int .u32 0)], 23, true⟩])) := by
 by_cases hm : a % 2147483648 = 0
 ·have h := of_zero a w ha hf hm
  have e1 : Bt.mant a = 0 := by unfold Bt.mant; split <;> omega
  have e2 : Bt.expo a = -149 := by unfold Bt.expo; rw [if_pos (by omega)]
  rw [e1, e2]; exact h
 ·have hp : 0 < Bt.mant a := by unfold Bt.mant; split <;> omega
  have hb : Bt.mant a < 16777216 := by unfold Bt.mant; split <;> omega
  obtain ⟨v, hv⟩ := Int.eq_ofNat_of_zero_le (Int.le_of_lt hp)
  have hm : Bt.mant a = ((v : Nat) : Int) := hv
  have h := of_pos a v w ha hf hm (by omega)
  rw [hm, Int.toNat_natCast, Nd.nd_one (by omega), if_neg (by omega)]; exact h

set_option maxRecDepth 100000 in
set_option maxHeartbeats 1000000 in
theorem pnum_same (x bx cx z bz cz : Nat) (e e1 e2 : Int) (n1 n2 : Nat) (g1 g2 : Bool) (w : World) (hrx : Nd.Nb w bx x) (hnx : Nd.nd x ≤ 50) (hrz : Nd.Nb w bz z) (hnz : Nd.nd z ≤ 50) (he1 : e1 = e + ((n1 : Nat) : Int)) (he2 : e2 = e + ((n2 : Nat) : Int)) (hn12 : n1 = 0 ∨ n2 = 0) (hn1 : n1 ≤ 3000) (hn2 : n2 ≤ 3000) (heb : -100000 ≤ e ∧ e ≤ 100000) (hg : g1 = g2) :
  Calls Try.prog 33 #[(.agg #[(.int .i64 2), (.bool g1), (.slice (some ⟨bx, 0, none⟩) ((Nd.nd x)) cx), (.int .i64 e1), (.bool false)]), (.agg #[(.int .i64 2), (.bool g2), (.slice (some ⟨bz, 0, none⟩) ((Nd.nd z)) cz), (.int .i64 e2), (.bool false)])] w (Ret w (fun z' : Nat × Nat => Nd.nd ((x * 2 ^ n1) + (z * 2 ^ n2)) ≤ z'.2) (fun z' => (.agg #[(.int .i64 2), (.bool g1), (.slice (some ⟨z'.1, 0, none⟩) ((Nd.nd ((x * 2 ^ n1) + (z * 2 ^ n2)))) z'.2), (.int .i64 e), (.bool false)])) (fun z' => [⟨z'.1, (Nd.dl z'.2 ((x * 2 ^ n1) + (z * 2 ^ n2))).map u32, 23, true⟩])) := by
 have hXn : Nd.nd (x * 2 ^ n1) ≤ Nd.nd x + n1 / 32 + 1 := Nd.nd_le Nd.up_lt
 have hZn : Nd.nd (z * 2 ^ n2) ≤ Nd.nd z + n2 / 32 + 1 := Nd.nd_le Nd.up_lt
 refine enter (M := None) (L := []) (n := 97) (l := [(0, (.agg #[(.int .i64 2), (.bool g1), (.slice (some ⟨bx, 0, none⟩) ((Nd.nd x)) cx), (.int .i64 e1), (.bool false)])), (1, (.agg #[(.int .i64 2), (.bool g2), (.slice (some ⟨bz, 0, none⟩) ((Nd.nd z)) cz), (.int .i64 e2), (.bool false)]))]) Try.func33 rfl rfl (Args.cons rfl (Args.cons rfl (Args.nil _))) (Hp.start _ _) ?_
 refine GC.seq ?_
 refine GC.region ?_
 refine GL.step (Stp.box (cs := [(.int .i64 2), (.bool g1), (.slice (some ⟨bx, 0, none⟩) ((Nd.nd x)) cx), (.int .i64 e1), (.bool false)]) rfl rfl (by decide)) (fun bq1 _ => ?_)
 refine GL.step (Stp.box (cs := [(.int .i64 2), (.bool g2), (.slice (some ⟨bz, 0, none⟩) ((Nd.nd z)) cz), (.int .i64 e2), (.bool false)]) rfl rfl (by decide)) (fun bq2 _ => ?_)
 refine GL.step (Stp.alloc T.zr38 (by decide)) (fun bq3 _ => ?_)
 refine GL.nil ?_
 refine GE.thenN ?_
 refine GC.seq ?_
 refine GC.seq ?_
 refine GC.region ?_
 refine GL.val (v := (.pointer (some ⟨bq1, 0, none⟩))) (Ex.cast (Ex.fieldAddr rfl Try.underlying38 rfl T.sz3 (by decide)) rfl) (by decide) ?_
 refine GL.val (Ex.load rfl T.ag3 (i := 2) rfl rfl) (by decide) ?_
 refine GL.val (v := (.bool false)) (Ex.cast (Ex.eql rfl rfl) rfl) (by decide) ?_
 refine GL.val (Ex.move rfl) (by decide) ?_
 refine GL.stepG (tj := 12) rfl rfl (Ex.wp (v := (.pointer (some ⟨bq2, 0, none⟩))) (Ex.cast (Ex.fieldAddr rfl Try.underlying38 rfl T.sz3 (by decide)) rfl) (by decide)) (fun _ _ => ?_)
 refine GL.stepG (tj := 12) rfl rfl (Ex.wp (v := (.int .i64 2)) (Ex.load rfl T.ag3 (i := 1) rfl rfl) (by decide)) (fun _ _ => ?_)
 refine GL.stepG (tj := 12) rfl rfl (Ex.wp (v := (.bool false)) (Ex.cast (Ex.eql rfl rfl) rfl) (by decide)) (fun _ _ => ?_)
 refine GL.val (v := (.bool false)) (Ex.pickF rfl rfl) (by decide) ?_
 refine GL.val (Ex.move rfl) (by decide) ?_
 refine GL.stepG (tj := 17) rfl rfl (Ex.wp (v := (.pointer (some ⟨bq1, 0, none⟩))) (Ex.cast (Ex.fieldAddr rfl Try.underlying38 rfl T.sz3 (by decide)) rfl) (by decide)) (fun _ _ => ?_)
 refine GL.stepG (tj := 17) rfl rfl (Ex.wp (v := (.int .i64 2)) (Ex.load rfl T.ag3 (i := 2) rfl rfl) (by decide)) (fun _ _ => ?_)
 refine GL.stepG (tj := 17) rfl rfl (Ex.wp (v := (.bool false)) (Ex.cast (Ex.eql rfl rfl) rfl) (by decide)) (fun _ _ => ?_)
 refine GL.stepG (tj := 17) rfl rfl (Ex.wp (v := (.bool false)) (Ex.move rfl) (by decide)) (fun _ _ => ?_)
 refine GL.skipG (tj := 21) rfl rfl rfl (by decide) ?_
 refine GL.skipG (tj := 21) rfl rfl rfl (by decide) ?_
 refine GL.skipG (tj := 21) rfl rfl rfl (by decide) ?_
 refine GL.stepG (tj := 17) rfl rfl (Ex.wp (v := (.bool false)) (Ex.pickF rfl rfl) (by decide)) (fun _ _ => ?_)
 refine GL.stepG (tj := 17) rfl rfl (Ex.wp (v := (.bool false)) (Ex.move rfl) (by decide)) (fun _ _ => ?_)
 refine GL.skipG (tj := 26) rfl rfl rfl (by decide) ?_
 refine GL.skipG (tj := 26) rfl rfl rfl (by decide) ?_
 refine GL.skipG (tj := 26) rfl rfl rfl (by decide) ?_
 refine GL.skipG (tj := 26) rfl rfl rfl (by decide) ?_
 refine GL.skipG (tj := 26) rfl rfl rfl (by decide) ?_
 refine GL.stepG (tj := 17) rfl rfl (Ex.wp (v := (.bool false)) (Ex.pickF rfl rfl) (by decide)) (fun _ _ => ?_)
 refine GL.val (v := (.bool false)) (Ex.pickF rfl rfl) (by decide) ?_
 refine GL.nil ?_
 refine GE.thenN ?_
 refine GC.cond rfl (fun hq4 => by cases hq4) (fun _ => ?_)
 refine GC.skip ?_
 refine GE.thenN ?_
 refine GC.seq ?_
 refine GC.seq ?_
 refine GC.region ?_
 refine GL.val (v := (.pointer (some ⟨bq1, 0, none⟩))) (Ex.cast (Ex.fieldAddr rfl Try.underlying38 rfl T.sz3 (by decide)) rfl) (by decide) ?_
 refine GL.val (Ex.load rfl T.ag3 (i := 2) rfl rfl) (by decide) ?_
 refine GL.val (v := (.bool false)) (Ex.cast (Ex.eql rfl rfl) rfl) (by decide) ?_
 refine GL.nil ?_
 refine GE.thenN ?_
 refine GC.cond rfl (fun hq5 => by cases hq5) (fun _ => ?_)
 refine GC.skip ?_
 refine GE.thenN ?_
 refine GC.seq ?_
 refine GC.seq ?_
 refine GC.region ?_
 refine GL.val (v := (.pointer (some ⟨bq2, 0, none⟩))) (Ex.cast (Ex.fieldAddr rfl Try.underlying38 rfl T.sz3 (by decide)) rfl) (by decide) ?_
 refine GL.val (Ex.load rfl T.ag3 (i := 1) rfl rfl) (by decide) ?_
 refine GL.val (v := (.bool false)) (Ex.cast (Ex.eql rfl rfl) rfl) (by decide) ?_
 refine GL.nil ?_
 refine GE.thenN ?_
 refine GC.cond rfl (fun hq6 => by cases hq6) (fun _ => ?_)
 refine GC.skip ?_
 refine GE.thenN ?_
 refine GC.seq ?_
 refine GC.region ?_
 refine GL.val (v := (.pointer (some ⟨bq1, 3, none⟩))) (Ex.cast (Ex.fieldAddr rfl Try.underlying38 rfl T.sz3 (by decide)) rfl) (by decide) ?_
 refine GL.val (Ex.load rfl T.ag3 (i := 2) rfl rfl) (by decide) ?_
 refine GL.val (v := (.pointer (some ⟨bq2, 3, none⟩))) (Ex.cast (Ex.fieldAddr rfl Try.underlying38 rfl T.sz3 (by decide)) rfl) (by decide) ?_
 refine GL.val (Ex.load rfl T.ag3 (i := 1) rfl rfl) (by decide) ?_
 refine GL.val (v := (.int .i64 e)) (Ex.minI rfl rfl (Z := e) (by split <;> omega)) (by decide) ?_
 refine GL.val (Ex.assign rfl) (by decide) ?_
 refine GL.nil ?_
 refine GE.thenN ?_
 refine GC.seq ?_
 by_cases hx0 : x = 0
 ·by_cases hz0 : z = 0
  ·refine GC.drawP [⟨bq3, [(.int .i64 0), (.bool false), (.slice none 0 0), (.int .i64 0), (.bool false)], 38, true⟩, ⟨bq2, [(.int .i64 2), (.bool g2), (.slice (some ⟨bz, 0, none⟩) ((Nd.nd z)) cz), (.int .i64 e2), (.bool false)], 38, true⟩, ⟨bq1, [(.int .i64 2), (.bool g1), (.slice (some ⟨bx, 0, none⟩) ((Nd.nd x)) cx), (.int .i64 e1), (.bool false)], 38, true⟩] T.mixed (by kernel_rfl) (by kernel_rfl) (fuel := 15) rfl rfl ?_
   refine GH.take 0 (v := (.pointer (some ⟨bq1, 2, none⟩))) rfl (by kernel_rfl) (by kernel_rfl) (by kernel_rfl) (fun _ _ _ h => h) (Ex.cast (Ex.fieldAddr rfl Try.underlying38 rfl T.sz36 (by decide)) rfl) (ulC (ulC (ulC ulN))) (by decide) ?_
   refine GH.take 1 (v := (.slice (some ⟨bx, 0, none⟩) ((Nd.nd x)) cx)) rfl (by kernel_rfl) (by kernel_rfl) (by kernel_rfl) (fun _ _ _ h => h) (Ex.load rfl T.ag36 (i := 2) rfl rfl) (ulC (ulC (ulC ulN))) (by decide) ?_
   refine GH.take 2 (v := (.pointer (some ⟨bq1, 3, none⟩))) rfl (by kernel_rfl) (by kernel_rfl) (by kernel_rfl) (fun _ _ _ h => h) (Ex.cast (Ex.fieldAddr rfl Try.underlying38 rfl T.sz3 (by decide)) rfl) (ulC (ulC (ulC ulN))) (by decide) ?_
   refine GH.take 3 (v := (.int .i64 e1)) rfl (by kernel_rfl) (by kernel_rfl) (by kernel_rfl) (fun _ _ _ h => h) (Ex.load rfl T.ag3 (i := 2) rfl rfl) (ulC (ulC (ulC ulN))) (by decide) ?_
   refine GH.take 4 (v := (.int .i64 e)) rfl (by kernel_rfl) (by kernel_rfl) (by kernel_rfl) (fun _ _ _ h => h) (Ex.move rfl) (ulC (ulC (ulC ulN))) (by decide) ?_
   refine GH.take 5 (v := (.int .i64 (((n1 : Nat) : Int)))) rfl (by kernel_rfl) (by kernel_rfl) (by kernel_rfl) (fun _ _ _ h => h) (Ex.sub' rfl rfl (Z := ((n1 : Nat) : Int)) (by rw [w64 (by omega)]; omega)) (ulC (ulC (ulC ulN))) (by decide) ?_
   refine GH.take 7 (v := (.pointer (some ⟨bq2, 2, none⟩))) rfl (by kernel_rfl) (by kernel_rfl) (by kernel_rfl) (fun _ _ _ h => h) (Ex.cast (Ex.fieldAddr rfl Try.underlying38 rfl T.sz36 (by decide)) rfl) (ulC (ulC (ulC ulN))) (by decide) ?_
   refine GH.take 8 (v := (.slice (some ⟨bz, 0, none⟩) ((Nd.nd z)) cz)) rfl (by kernel_rfl) (by kernel_rfl) (by kernel_rfl) (fun _ _ _ h => h) (Ex.load rfl T.ag36 (i := 1) rfl rfl) (ulC (ulC (ulC ulN))) (by decide) ?_
   refine GH.take 9 (v := (.pointer (some ⟨bq2, 3, none⟩))) rfl (by kernel_rfl) (by kernel_rfl) (by kernel_rfl) (fun _ _ _ h => h) (Ex.cast (Ex.fieldAddr rfl Try.underlying38 rfl T.sz3 (by decide)) rfl) (ulC (ulC (ulC ulN))) (by decide) ?_
   refine GH.take 10 (v := (.int .i64 e2)) rfl (by kernel_rfl) (by kernel_rfl) (by kernel_rfl) (fun _ _ _ h => h) (Ex.load rfl T.ag3 (i := 1) rfl rfl) (ulC (ulC (ulC ulN))) (by decide) ?_
   refine GH.take 11 (v := (.int .i64 e)) rfl (by kernel_rfl) (by kernel_rfl) (by kernel_rfl) (fun _ _ _ h => h) (Ex.move rfl) (ulC (ulC (ulC ulN))) (by decide) ?_
   refine GH.take 12 (v := (.int .i64 (((n2 : Nat) : Int)))) rfl (by kernel_rfl) (by kernel_rfl) (by kernel_rfl) (fun _ _ _ h => h) (Ex.sub' rfl rfl (Z := ((n2 : Nat) : Int)) (by rw [w64 (by omega)]; omega)) (ulC (ulC (ulC ulN))) (by decide) ?_
   refine GH.one 6 rfl (by kernel_rfl) (Stp.callR (vs := [(.slice (some ⟨bx, 0, none⟩) ((Nd.nd x)) cx), (.int .i64 (((n1 : Nat) : Int)))]) rfl rfl T.own61 (by decide) (fun wc hw => up_z x bx cx n1 wc (by rw [hx0]; rfl))) (fun _ => (ulC (ulC (ulC ulN)))) (fun xq11 hq12 => ?_)
   refine GH.one 13 rfl (by kernel_rfl) (Stp.callR (vs := [(.slice (some ⟨bz, 0, none⟩) ((Nd.nd z)) cz), (.int .i64 (((n2 : Nat) : Int)))]) rfl rfl T.own61 (by decide) (fun wc hw => up_z z bz cz n2 wc (by rw [hz0]; rfl))) (fun _ => (ulC (ulC (ulC ulN)))) (fun xq13 hq14 => ?_)
   refine GH.take 14 (v := (.slice none 0 0)) rfl (by kernel_rfl) (by kernel_rfl) (by kernel_rfl) (fun _ _ _ h => h) (Ex.assign rfl) (ulC (ulC (ulC ulN))) (by decide) ?_
   refine GH.done (by kernel_rfl) ?_
   refine GE.thenN ?_
   refine GE.tail rfl (Ex.wp (v := (.slice none 0 0)) (Ex.assign rfl) (by decide)) (fun _ _ => ?_)
   refine GE.thenN ?_
   refine GC.seq ?_
   refine GC.seq ?_
   refine GC.region ?_
   refine GL.val (v := (.pointer (some ⟨bq1, 1, none⟩))) (Ex.cast (Ex.fieldAddr rfl Try.underlying38 rfl T.sz4 (by decide)) rfl) (by decide) ?_
   refine GL.val (Ex.load rfl T.ag4 (i := 2) rfl rfl) (by decide) ?_
   refine GL.val (v := (.pointer (some ⟨bq2, 1, none⟩))) (Ex.cast (Ex.fieldAddr rfl Try.underlying38 rfl T.sz4 (by decide)) rfl) (by decide) ?_
   refine GL.val (Ex.load rfl T.ag4 (i := 1) rfl rfl) (by decide) ?_
   refine GL.val (v := (.bool (g1 == g2))) (Ex.eqlB rfl rfl Try.underlying4) (by decide) ?_
   refine GL.nil ?_
   refine GE.thenN ?_
   refine GC.cond rfl (fun _ => ?_) (fun hq15 => by exfalso; rw [hg] at hq15; simp at hq15)
   refine GC.seq ?_
   refine GC.drawP [⟨bq3, [(.int .i64 0), (.bool false), (.slice none 0 0), (.int .i64 0), (.bool false)], 38, true⟩, ⟨bq2, [(.int .i64 2), (.bool g2), (.slice (some ⟨bz, 0, none⟩) ((Nd.nd z)) cz), (.int .i64 e2), (.bool false)], 38, true⟩, ⟨bq1, [(.int .i64 2), (.bool g1), (.slice (some ⟨bx, 0, none⟩) ((Nd.nd x)) cx), (.int .i64 e1), (.bool false)], 38, true⟩] T.mixed (by kernel_rfl) (by kernel_rfl) (fuel := 7) rfl rfl ?_
   refine GH.take 0 (v := (.pointer (some ⟨bq1, 1, none⟩))) rfl (by kernel_rfl) (by kernel_rfl) (by kernel_rfl) (fun _ _ _ h => h) (Ex.cast (Ex.fieldAddr rfl Try.underlying38 rfl T.sz4 (by decide)) rfl) (ulC (ulC (ulC ulN))) (by decide) ?_
   refine GH.take 1 (v := (.bool g1)) rfl (by kernel_rfl) (by kernel_rfl) (by kernel_rfl) (fun _ _ _ h => h) (Ex.load rfl T.ag4 (i := 2) rfl rfl) (ulC (ulC (ulC ulN))) (by decide) ?_
   refine GH.take 2 (v := (.slice none 0 0)) rfl (by kernel_rfl) (by kernel_rfl) (by kernel_rfl) (fun _ _ _ h => h) (Ex.move rfl) (ulC (ulC (ulC ulN))) (by decide) ?_
   refine GH.take 3 (v := (.slice none 0 0)) rfl (by kernel_rfl) (by kernel_rfl) (by kernel_rfl) (fun _ _ _ h => h) (Ex.move rfl) (ulC (ulC (ulC ulN))) (by decide) ?_
   refine GH.take 5 (v := (.int .i64 e)) rfl (by kernel_rfl) (by kernel_rfl) (by kernel_rfl) (fun _ _ _ h => h) (Ex.move rfl) (ulC (ulC (ulC ulN))) (by decide) ?_
   refine GH.one 4 rfl (by kernel_rfl) (Stp.callR (vs := [(.slice none 0 0), (.slice none 0 0)]) rfl rfl T.own64 (by decide) (fun wc hw => plusV_nn (x * 2 ^ n1) none 0 (z * 2 ^ n2) none 0 (max (Nd.nd (x * 2 ^ n1)) (Nd.nd (z * 2 ^ n2)) + 1) wc (by rw [hx0, Nat.zero_mul]) (by rw [hz0, Nat.zero_mul]) rfl)) (fun _ => (ulS (ulC (ulC (ulC ulN))))) (fun xq18 hq19 => ?_)
   refine GH.take 6 (v := (.agg #[(.int .i64 2), (.bool g1), (.slice (some ⟨xq18, 0, none⟩) ((Nd.nd ((x * 2 ^ n1) + (z * 2 ^ n2)))) ((max (Nd.nd (x * 2 ^ n1)) (Nd.nd (z * 2 ^ n2)) + 1))), (.int .i64 e), (.bool false)])) rfl (by kernel_rfl) (by kernel_rfl) (by kernel_rfl) (fun _ _ _ h => h) (Ex.build (vs := [(0, (.int .i64 2)), (1, (.bool g1)), (2, (.slice (some ⟨xq18, 0, none⟩) ((Nd.nd ((x * 2 ^ n1) + (z * 2 ^ n2)))) ((max (Nd.nd (x * 2 ^ n1)) (Nd.nd (z * 2 ^ n2)) + 1)))), (3, (.int .i64 e))]) rfl (by first | rfl | kernel_rfl)) (ulS (ulC (ulC (ulC ulN)))) (by decide) ?_
   refine GH.done (by kernel_rfl) ?_
   refine GE.thenN ?_
   refine GE.tail rfl (Stp.st1 (cs' := [(.int .i64 2), (.bool g1), (.slice (some ⟨xq18, 0, none⟩) ((Nd.nd ((x * 2 ^ n1) + (z * 2 ^ n2)))) ((max (Nd.nd (x * 2 ^ n1)) (Nd.nd (z * 2 ^ n2)) + 1))), (.int .i64 e), (.bool false)]) rfl rfl rfl T.sz38 rfl rfl rfl) (fun _ _ => ?_)
   refine GE.thenN ?_
   refine GC.ret ?_
   refine GE.thenR ?_
   refine GC.ret1 rfl (Rv.cellA rfl T.ag38 T.sz38 (L := _) (i := 1) rfl (vs := [(.int .i64 2), (.bool g1), (.slice (some ⟨xq18, 0, none⟩) ((Nd.nd ((x * 2 ^ n1) + (z * 2 ^ n2)))) ((max (Nd.nd (x * 2 ^ n1)) (Nd.nd (z * 2 ^ n2)) + 1))), (.int .i64 e), (.bool false)]) rfl rfl) (fun wN HN => ?_)
   exact HN.ret (xq18, (max (Nd.nd (x * 2 ^ n1)) (Nd.nd (z * 2 ^ n2)) + 1)) (Nd.nd_le Nd.plus_lt) rfl (ulC (ulS (ulS (ulS ulN)))) rfl
  ·refine GC.drawP [⟨bq3, [(.int .i64 0), (.bool false), (.slice none 0 0), (.int .i64 0), (.bool false)], 38, true⟩, ⟨bq2, [(.int .i64 2), (.bool g2), (.slice (some ⟨bz, 0, none⟩) ((Nd.nd z)) cz), (.int .i64 e2), (.bool false)], 38, true⟩, ⟨bq1, [(.int .i64 2), (.bool g1), (.slice (some ⟨bx, 0, none⟩) ((Nd.nd x)) cx), (.int .i64 e1), (.bool false)], 38, true⟩] T.mixed (by kernel_rfl) (by kernel_rfl) (fuel := 15) rfl rfl ?_
   refine GH.take 0 (v := (.pointer (some ⟨bq1, 2, none⟩))) rfl (by kernel_rfl) (by kernel_rfl) (by kernel_rfl) (fun _ _ _ h => h) (Ex.cast (Ex.fieldAddr rfl Try.underlying38 rfl T.sz36 (by decide)) rfl) (ulC (ulC (ulC ulN))) (by decide) ?_
   refine GH.take 1 (v := (.slice (some ⟨bx, 0, none⟩) ((Nd.nd x)) cx)) rfl (by kernel_rfl) (by kernel_rfl) (by kernel_rfl) (fun _ _ _ h => h) (Ex.load rfl T.ag36 (i := 2) rfl rfl) (ulC (ulC (ulC ulN))) (by decide) ?_
   refine GH.take 2 (v := (.pointer (some ⟨bq1, 3, none⟩))) rfl (by kernel_rfl) (by kernel_rfl) (by kernel_rfl) (fun _ _ _ h => h) (Ex.cast (Ex.fieldAddr rfl Try.underlying38 rfl T.sz3 (by decide)) rfl) (ulC (ulC (ulC ulN))) (by decide) ?_
   refine GH.take 3 (v := (.int .i64 e1)) rfl (by kernel_rfl) (by kernel_rfl) (by kernel_rfl) (fun _ _ _ h => h) (Ex.load rfl T.ag3 (i := 2) rfl rfl) (ulC (ulC (ulC ulN))) (by decide) ?_
   refine GH.take 4 (v := (.int .i64 e)) rfl (by kernel_rfl) (by kernel_rfl) (by kernel_rfl) (fun _ _ _ h => h) (Ex.move rfl) (ulC (ulC (ulC ulN))) (by decide) ?_
   refine GH.take 5 (v := (.int .i64 (((n1 : Nat) : Int)))) rfl (by kernel_rfl) (by kernel_rfl) (by kernel_rfl) (fun _ _ _ h => h) (Ex.sub' rfl rfl (Z := ((n1 : Nat) : Int)) (by rw [w64 (by omega)]; omega)) (ulC (ulC (ulC ulN))) (by decide) ?_
   refine GH.take 7 (v := (.pointer (some ⟨bq2, 2, none⟩))) rfl (by kernel_rfl) (by kernel_rfl) (by kernel_rfl) (fun _ _ _ h => h) (Ex.cast (Ex.fieldAddr rfl Try.underlying38 rfl T.sz36 (by decide)) rfl) (ulC (ulC (ulC ulN))) (by decide) ?_
   refine GH.take 8 (v := (.slice (some ⟨bz, 0, none⟩) ((Nd.nd z)) cz)) rfl (by kernel_rfl) (by kernel_rfl) (by kernel_rfl) (fun _ _ _ h => h) (Ex.load rfl T.ag36 (i := 1) rfl rfl) (ulC (ulC (ulC ulN))) (by decide) ?_
   refine GH.take 9 (v := (.pointer (some ⟨bq2, 3, none⟩))) rfl (by kernel_rfl) (by kernel_rfl) (by kernel_rfl) (fun _ _ _ h => h) (Ex.cast (Ex.fieldAddr rfl Try.underlying38 rfl T.sz3 (by decide)) rfl) (ulC (ulC (ulC ulN))) (by decide) ?_
   refine GH.take 10 (v := (.int .i64 e2)) rfl (by kernel_rfl) (by kernel_rfl) (by kernel_rfl) (fun _ _ _ h => h) (Ex.load rfl T.ag3 (i := 1) rfl rfl) (ulC (ulC (ulC ulN))) (by decide) ?_
   refine GH.take 11 (v := (.int .i64 e)) rfl (by kernel_rfl) (by kernel_rfl) (by kernel_rfl) (fun _ _ _ h => h) (Ex.move rfl) (ulC (ulC (ulC ulN))) (by decide) ?_
   refine GH.take 12 (v := (.int .i64 (((n2 : Nat) : Int)))) rfl (by kernel_rfl) (by kernel_rfl) (by kernel_rfl) (fun _ _ _ h => h) (Ex.sub' rfl rfl (Z := ((n2 : Nat) : Int)) (by rw [w64 (by omega)]; omega)) (ulC (ulC (ulC ulN))) (by decide) ?_
   refine GH.one 6 rfl (by kernel_rfl) (Stp.callR (vs := [(.slice (some ⟨bx, 0, none⟩) ((Nd.nd x)) cx), (.int .i64 (((n1 : Nat) : Int)))]) rfl rfl T.own61 (by decide) (fun wc hw => up_z x bx cx n1 wc (by rw [hx0]; rfl))) (fun _ => (ulC (ulC (ulC ulN)))) (fun xq24 hq25 => ?_)
   refine GH.one 13 rfl (by kernel_rfl) (Stp.callR (vs := [(.slice (some ⟨bz, 0, none⟩) ((Nd.nd z)) cz), (.int .i64 (((n2 : Nat) : Int)))]) rfl rfl T.own61 (by decide) (fun wc hw => up_b z bz cz n2 (Nd.nd z + n2 / 32 + 1) wc (hw.rd hrz (fun x => x)) (by omega) (by omega) (by omega) rfl)) (fun _ => (ulS (ulC (ulC (ulC ulN))))) (fun xq26 hq27 => ?_)
   refine GH.take 14 (v := (.slice none 0 0)) rfl (by kernel_rfl) (by kernel_rfl) (by kernel_rfl) (fun _ _ _ h => h) (Ex.assign rfl) (ulS (ulC (ulC (ulC ulN)))) (by decide) ?_
   refine GH.done (by kernel_rfl) ?_
   refine GE.thenN ?_
   refine GE.tail rfl (Ex.wp (v := (.slice (some ⟨xq26, 0, none⟩) ((Nd.nd (z * 2 ^ n2))) ((Nd.nd z + n2 / 32 + 1)))) (Ex.assign rfl) (by decide)) (fun _ _ => ?_)
   refine GE.thenN ?_
   refine GC.seq ?_
   refine GC.seq ?_
   refine GC.region ?_
   refine GL.val (v := (.pointer (some ⟨bq1, 1, none⟩))) (Ex.cast (Ex.fieldAddr rfl Try.underlying38 rfl T.sz4 (by decide)) rfl) (by decide) ?_
   refine GL.val (Ex.load rfl T.ag4 (i := 3) rfl rfl) (by decide) ?_
   refine GL.val (v := (.pointer (some ⟨bq2, 1, none⟩))) (Ex.cast (Ex.fieldAddr rfl Try.underlying38 rfl T.sz4 (by decide)) rfl) (by decide) ?_
   refine GL.val (Ex.load rfl T.ag4 (i := 2) rfl rfl) (by decide) ?_
   refine GL.val (v := (.bool (g1 == g2))) (Ex.eqlB rfl rfl Try.underlying4) (by decide) ?_
   refine GL.nil ?_
   refine GE.thenN ?_
   refine GC.cond rfl (fun _ => ?_) (fun hq28 => by exfalso; rw [hg] at hq28; simp at hq28)
   refine GC.seq ?_
   refine GC.drawP [⟨xq26, (Nd.dl ((Nd.nd z + n2 / 32 + 1)) (z * 2 ^ n2)).map u32, 23, true⟩, ⟨bq3, [(.int .i64 0), (.bool false), (.slice none 0 0), (.int .i64 0), (.bool false)], 38, true⟩, ⟨bq2, [(.int .i64 2), (.bool g2), (.slice (some ⟨bz, 0, none⟩) ((Nd.nd z)) cz), (.int .i64 e2), (.bool false)], 38, true⟩, ⟨bq1, [(.int .i64 2), (.bool g1), (.slice (some ⟨bx, 0, none⟩) ((Nd.nd x)) cx), (.int .i64 e1), (.bool false)], 38, true⟩] T.mixed (by kernel_rfl) (by kernel_rfl) (fuel := 7) rfl rfl ?_
   refine GH.take 0 (v := (.pointer (some ⟨bq1, 1, none⟩))) rfl (by kernel_rfl) (by kernel_rfl) (by kernel_rfl) (fun _ _ _ h => h) (Ex.cast (Ex.fieldAddr rfl Try.underlying38 rfl T.sz4 (by decide)) rfl) (ulC (ulC (ulC (ulC ulN)))) (by decide) ?_
   refine GH.take 1 (v := (.bool g1)) rfl (by kernel_rfl) (by kernel_rfl) (by kernel_rfl) (fun _ _ _ h => h) (Ex.load rfl T.ag4 (i := 3) rfl rfl) (ulC (ulC (ulC (ulC ulN)))) (by decide) ?_
   refine GH.take 2 (v := (.slice none 0 0)) rfl (by kernel_rfl) (by kernel_rfl) (by kernel_rfl) (fun _ _ _ h => h) (Ex.move rfl) (ulC (ulC (ulC (ulC ulN)))) (by decide) ?_
   refine GH.take 3 (v := (.slice (some ⟨xq26, 0, none⟩) ((Nd.nd (z * 2 ^ n2))) ((Nd.nd z + n2 / 32 + 1)))) rfl (by kernel_rfl) (by kernel_rfl) (by kernel_rfl) (fun _ _ _ h => h) (Ex.move rfl) (ulC (ulC (ulC (ulC ulN)))) (by decide) ?_
   refine GH.take 5 (v := (.int .i64 e)) rfl (by kernel_rfl) (by kernel_rfl) (by kernel_rfl) (fun _ _ _ h => h) (Ex.move rfl) (ulC (ulC (ulC (ulC ulN)))) (by decide) ?_
   refine GH.one 4 rfl (by kernel_rfl) (Stp.callR (vs := [(.slice none 0 0), (.slice (some ⟨xq26, 0, none⟩) ((Nd.nd (z * 2 ^ n2))) ((Nd.nd z + n2 / 32 + 1)))]) rfl rfl T.own64 (by decide) (fun wc hw => plusV_nb (x * 2 ^ n1) none 0 (z * 2 ^ n2) xq26 ((Nd.nd z + n2 / 32 + 1)) (max (Nd.nd (x * 2 ^ n1)) (Nd.nd (z * 2 ^ n2)) + 1) wc (by rw [hx0, Nat.zero_mul]) (Nd.Nb.of (hw.rdOf (i := 0) rfl 0) Nd.up_lt) (by omega) rfl)) (fun _ => (ulS (ulC (ulC (ulC (ulC ulN)))))) (fun xq31 hq32 => ?_)
   refine GH.take 6 (v := (.agg #[(.int .i64 2), (.bool g1), (.slice (some ⟨xq31, 0, none⟩) ((Nd.nd ((x * 2 ^ n1) + (z * 2 ^ n2)))) ((max (Nd.nd (x * 2 ^ n1)) (Nd.nd (z * 2 ^ n2)) + 1))), (.int .i64 e), (.bool false)])) rfl (by kernel_rfl) (by kernel_rfl) (by kernel_rfl) (fun _ _ _ h => h) (Ex.build (vs := [(0, (.int .i64 2)), (1, (.bool g1)), (2, (.slice (some ⟨xq31, 0, none⟩) ((Nd.nd ((x * 2 ^ n1) + (z * 2 ^ n2)))) ((max (Nd.nd (x * 2 ^ n1)) (Nd.nd (z * 2 ^ n2)) + 1)))), (3, (.int .i64 e))]) rfl (by first | rfl | kernel_rfl)) (ulS (ulC (ulC (ulC (ulC ulN))))) (by decide) ?_
   refine GH.done (by kernel_rfl) ?_
   refine GE.thenN ?_
   refine GE.tail rfl (Stp.st2 (cs' := [(.int .i64 2), (.bool g1), (.slice (some ⟨xq31, 0, none⟩) ((Nd.nd ((x * 2 ^ n1) + (z * 2 ^ n2)))) ((max (Nd.nd (x * 2 ^ n1)) (Nd.nd (z * 2 ^ n2)) + 1))), (.int .i64 e), (.bool false)]) rfl rfl rfl T.sz38 rfl rfl rfl) (fun _ _ => ?_)
   refine GE.thenN ?_
   refine GC.ret ?_
   refine GE.thenR ?_
   refine GC.ret1 rfl (Rv.cellA rfl T.ag38 T.sz38 (L := _) (i := 2) rfl (vs := [(.int .i64 2), (.bool g1), (.slice (some ⟨xq31, 0, none⟩) ((Nd.nd ((x * 2 ^ n1) + (z * 2 ^ n2)))) ((max (Nd.nd (x * 2 ^ n1)) (Nd.nd (z * 2 ^ n2)) + 1))), (.int .i64 e), (.bool false)]) rfl rfl) (fun wN HN => ?_)
   exact HN.ret (xq31, (max (Nd.nd (x * 2 ^ n1)) (Nd.nd (z * 2 ^ n2)) + 1)) (Nd.nd_le Nd.plus_lt) rfl (ulC (ulS (ulS (ulS (ulS ulN))))) rfl
 ·by_cases hz0 : z = 0
  ·refine GC.drawP [⟨bq3, [(.int .i64 0), (.bool false), (.slice none 0 0), (.int .i64 0), (.bool false)], 38, true⟩, ⟨bq2, [(.int .i64 2), (.bool g2), (.slice (some ⟨bz, 0, none⟩) ((Nd.nd z)) cz), (.int .i64 e2), (.bool false)], 38, true⟩, ⟨bq1, [(.int .i64 2), (.bool g1), (.slice (some ⟨bx, 0, none⟩) ((Nd.nd x)) cx), (.int .i64 e1), (.bool false)], 38, true⟩] T.mixed (by kernel_rfl) (by kernel_rfl) (fuel := 15) rfl rfl ?_
   refine GH.take 0 (v := (.pointer (some ⟨bq1, 2, none⟩))) rfl (by kernel_rfl) (by kernel_rfl) (by kernel_rfl) (fun _ _ _ h => h) (Ex.cast (Ex.fieldAddr rfl Try.underlying38 rfl T.sz36 (by decide)) rfl) (ulC (ulC (ulC ulN))) (by decide) ?_
   refine GH.take 1 (v := (.slice (some ⟨bx, 0, none⟩) ((Nd.nd x)) cx)) rfl (by kernel_rfl) (by kernel_rfl) (by kernel_rfl) (fun _ _ _ h => h) (Ex.load rfl T.ag36 (i := 2) rfl rfl) (ulC (ulC (ulC ulN))) (by decide) ?_
   refine GH.take 2 (v := (.pointer (some ⟨bq1, 3, none⟩))) rfl (by kernel_rfl) (by kernel_rfl) (by kernel_rfl) (fun _ _ _ h => h) (Ex.cast (Ex.fieldAddr rfl Try.underlying38 rfl T.sz3 (by decide)) rfl) (ulC (ulC (ulC ulN))) (by decide) ?_
   refine GH.take 3 (v := (.int .i64 e1)) rfl (by kernel_rfl) (by kernel_rfl) (by kernel_rfl) (fun _ _ _ h => h) (Ex.load rfl T.ag3 (i := 2) rfl rfl) (ulC (ulC (ulC ulN))) (by decide) ?_
   refine GH.take 4 (v := (.int .i64 e)) rfl (by kernel_rfl) (by kernel_rfl) (by kernel_rfl) (fun _ _ _ h => h) (Ex.move rfl) (ulC (ulC (ulC ulN))) (by decide) ?_
   refine GH.take 5 (v := (.int .i64 (((n1 : Nat) : Int)))) rfl (by kernel_rfl) (by kernel_rfl) (by kernel_rfl) (fun _ _ _ h => h) (Ex.sub' rfl rfl (Z := ((n1 : Nat) : Int)) (by rw [w64 (by omega)]; omega)) (ulC (ulC (ulC ulN))) (by decide) ?_
   refine GH.take 7 (v := (.pointer (some ⟨bq2, 2, none⟩))) rfl (by kernel_rfl) (by kernel_rfl) (by kernel_rfl) (fun _ _ _ h => h) (Ex.cast (Ex.fieldAddr rfl Try.underlying38 rfl T.sz36 (by decide)) rfl) (ulC (ulC (ulC ulN))) (by decide) ?_
   refine GH.take 8 (v := (.slice (some ⟨bz, 0, none⟩) ((Nd.nd z)) cz)) rfl (by kernel_rfl) (by kernel_rfl) (by kernel_rfl) (fun _ _ _ h => h) (Ex.load rfl T.ag36 (i := 1) rfl rfl) (ulC (ulC (ulC ulN))) (by decide) ?_
   refine GH.take 9 (v := (.pointer (some ⟨bq2, 3, none⟩))) rfl (by kernel_rfl) (by kernel_rfl) (by kernel_rfl) (fun _ _ _ h => h) (Ex.cast (Ex.fieldAddr rfl Try.underlying38 rfl T.sz3 (by decide)) rfl) (ulC (ulC (ulC ulN))) (by decide) ?_
   refine GH.take 10 (v := (.int .i64 e2)) rfl (by kernel_rfl) (by kernel_rfl) (by kernel_rfl) (fun _ _ _ h => h) (Ex.load rfl T.ag3 (i := 1) rfl rfl) (ulC (ulC (ulC ulN))) (by decide) ?_
   refine GH.take 11 (v := (.int .i64 e)) rfl (by kernel_rfl) (by kernel_rfl) (by kernel_rfl) (fun _ _ _ h => h) (Ex.move rfl) (ulC (ulC (ulC ulN))) (by decide) ?_
   refine GH.take 12 (v := (.int .i64 (((n2 : Nat) : Int)))) rfl (by kernel_rfl) (by kernel_rfl) (by kernel_rfl) (fun _ _ _ h => h) (Ex.sub' rfl rfl (Z := ((n2 : Nat) : Int)) (by rw [w64 (by omega)]; omega)) (ulC (ulC (ulC ulN))) (by decide) ?_
   refine GH.one 6 rfl (by kernel_rfl) (Stp.callR (vs := [(.slice (some ⟨bx, 0, none⟩) ((Nd.nd x)) cx), (.int .i64 (((n1 : Nat) : Int)))]) rfl rfl T.own61 (by decide) (fun wc hw => up_b x bx cx n1 (Nd.nd x + n1 / 32 + 1) wc (hw.rd hrx (fun x => x)) (by omega) (by omega) (by omega) rfl)) (fun _ => (ulS (ulC (ulC (ulC ulN))))) (fun xq37 hq38 => ?_)
   refine GH.one 13 rfl (by kernel_rfl) (Stp.callR (vs := [(.slice (some ⟨bz, 0, none⟩) ((Nd.nd z)) cz), (.int .i64 (((n2 : Nat) : Int)))]) rfl rfl T.own61 (by decide) (fun wc hw => up_z z bz cz n2 wc (by rw [hz0]; rfl))) (fun _ => (ulS (ulC (ulC (ulC ulN))))) (fun xq39 hq40 => ?_)
   refine GH.take 14 (v := (.slice (some ⟨xq37, 0, none⟩) ((Nd.nd (x * 2 ^ n1))) ((Nd.nd x + n1 / 32 + 1)))) rfl (by kernel_rfl) (by kernel_rfl) (by kernel_rfl) (fun _ _ _ h => h) (Ex.assign rfl) (ulS (ulC (ulC (ulC ulN)))) (by decide) ?_
   refine GH.done (by kernel_rfl) ?_
   refine GE.thenN ?_
   refine GE.tail rfl (Ex.wp (v := (.slice none 0 0)) (Ex.assign rfl) (by decide)) (fun _ _ => ?_)
   refine GE.thenN ?_
   refine GC.seq ?_
   refine GC.seq ?_
   refine GC.region ?_
   refine GL.val (v := (.pointer (some ⟨bq1, 1, none⟩))) (Ex.cast (Ex.fieldAddr rfl Try.underlying38 rfl T.sz4 (by decide)) rfl) (by decide) ?_
   refine GL.val (Ex.load rfl T.ag4 (i := 3) rfl rfl) (by decide) ?_
   refine GL.val (v := (.pointer (some ⟨bq2, 1, none⟩))) (Ex.cast (Ex.fieldAddr rfl Try.underlying38 rfl T.sz4 (by decide)) rfl) (by decide) ?_
   refine GL.val (Ex.load rfl T.ag4 (i := 2) rfl rfl) (by decide) ?_
   refine GL.val (v := (.bool (g1 == g2))) (Ex.eqlB rfl rfl Try.underlying4) (by decide) ?_
   refine GL.nil ?_
   refine GE.thenN ?_
   refine GC.cond rfl (fun _ => ?_) (fun hq41 => by exfalso; rw [hg] at hq41; simp at hq41)
   refine GC.seq ?_
   refine GC.drawP [⟨xq37, (Nd.dl ((Nd.nd x + n1 / 32 + 1)) (x * 2 ^ n1)).map u32, 23, true⟩, ⟨bq3, [(.int .i64 0), (.bool false), (.slice none 0 0), (.int .i64 0), (.bool false)], 38, true⟩, ⟨bq2, [(.int .i64 2), (.bool g2), (.slice (some ⟨bz, 0, none⟩) ((Nd.nd z)) cz), (.int .i64 e2), (.bool false)], 38, true⟩, ⟨bq1, [(.int .i64 2), (.bool g1), (.slice (some ⟨bx, 0, none⟩) ((Nd.nd x)) cx), (.int .i64 e1), (.bool false)], 38, true⟩] T.mixed (by kernel_rfl) (by kernel_rfl) (fuel := 7) rfl rfl ?_
   refine GH.take 0 (v := (.pointer (some ⟨bq1, 1, none⟩))) rfl (by kernel_rfl) (by kernel_rfl) (by kernel_rfl) (fun _ _ _ h => h) (Ex.cast (Ex.fieldAddr rfl Try.underlying38 rfl T.sz4 (by decide)) rfl) (ulC (ulC (ulC (ulC ulN)))) (by decide) ?_
   refine GH.take 1 (v := (.bool g1)) rfl (by kernel_rfl) (by kernel_rfl) (by kernel_rfl) (fun _ _ _ h => h) (Ex.load rfl T.ag4 (i := 3) rfl rfl) (ulC (ulC (ulC (ulC ulN)))) (by decide) ?_
   refine GH.take 2 (v := (.slice (some ⟨xq37, 0, none⟩) ((Nd.nd (x * 2 ^ n1))) ((Nd.nd x + n1 / 32 + 1)))) rfl (by kernel_rfl) (by kernel_rfl) (by kernel_rfl) (fun _ _ _ h => h) (Ex.move rfl) (ulC (ulC (ulC (ulC ulN)))) (by decide) ?_
   refine GH.take 3 (v := (.slice none 0 0)) rfl (by kernel_rfl) (by kernel_rfl) (by kernel_rfl) (fun _ _ _ h => h) (Ex.move rfl) (ulC (ulC (ulC (ulC ulN)))) (by decide) ?_
   refine GH.take 5 (v := (.int .i64 e)) rfl (by kernel_rfl) (by kernel_rfl) (by kernel_rfl) (fun _ _ _ h => h) (Ex.move rfl) (ulC (ulC (ulC (ulC ulN)))) (by decide) ?_
   refine GH.one 4 rfl (by kernel_rfl) (Stp.callR (vs := [(.slice (some ⟨xq37, 0, none⟩) ((Nd.nd (x * 2 ^ n1))) ((Nd.nd x + n1 / 32 + 1))), (.slice none 0 0)]) rfl rfl T.own64 (by decide) (fun wc hw => plusV_bn (x * 2 ^ n1) xq37 ((Nd.nd x + n1 / 32 + 1)) (z * 2 ^ n2) none 0 (max (Nd.nd (x * 2 ^ n1)) (Nd.nd (z * 2 ^ n2)) + 1) wc (Nd.Nb.of (hw.rdOf (i := 0) rfl 0) Nd.up_lt) (by omega) (by rw [hz0, Nat.zero_mul]) rfl)) (fun _ => (ulS (ulC (ulC (ulC (ulC ulN)))))) (fun xq44 hq45 => ?_)
   refine GH.take 6 (v := (.agg #[(.int .i64 2), (.bool g1), (.slice (some ⟨xq44, 0, none⟩) ((Nd.nd ((x * 2 ^ n1) + (z * 2 ^ n2)))) ((max (Nd.nd (x * 2 ^ n1)) (Nd.nd (z * 2 ^ n2)) + 1))), (.int .i64 e), (.bool false)])) rfl (by kernel_rfl) (by kernel_rfl) (by kernel_rfl) (fun _ _ _ h => h) (Ex.build (vs := [(0, (.int .i64 2)), (1, (.bool g1)), (2, (.slice (some ⟨xq44, 0, none⟩) ((Nd.nd ((x * 2 ^ n1) + (z * 2 ^ n2)))) ((max (Nd.nd (x * 2 ^ n1)) (Nd.nd (z * 2 ^ n2)) + 1)))), (3, (.int .i64 e))]) rfl (by first | rfl | kernel_rfl)) (ulS (ulC (ulC (ulC (ulC ulN))))) (by decide) ?_
   refine GH.done (by kernel_rfl) ?_
   refine GE.thenN ?_
   refine GE.tail rfl (Stp.st2 (cs' := [(.int .i64 2), (.bool g1), (.slice (some ⟨xq44, 0, none⟩) ((Nd.nd ((x * 2 ^ n1) + (z * 2 ^ n2)))) ((max (Nd.nd (x * 2 ^ n1)) (Nd.nd (z * 2 ^ n2)) + 1))), (.int .i64 e), (.bool false)]) rfl rfl rfl T.sz38 rfl rfl rfl) (fun _ _ => ?_)
   refine GE.thenN ?_
   refine GC.ret ?_
   refine GE.thenR ?_
   refine GC.ret1 rfl (Rv.cellA rfl T.ag38 T.sz38 (L := _) (i := 2) rfl (vs := [(.int .i64 2), (.bool g1), (.slice (some ⟨xq44, 0, none⟩) ((Nd.nd ((x * 2 ^ n1) + (z * 2 ^ n2)))) ((max (Nd.nd (x * 2 ^ n1)) (Nd.nd (z * 2 ^ n2)) + 1))), (.int .i64 e), (.bool false)]) rfl rfl) (fun wN HN => ?_)
   exact HN.ret (xq44, (max (Nd.nd (x * 2 ^ n1)) (Nd.nd (z * 2 ^ n2)) + 1)) (Nd.nd_le Nd.plus_lt) rfl (ulC (ulS (ulS (ulS (ulS ulN))))) rfl
  ·refine GC.drawP [⟨bq3, [(.int .i64 0), (.bool false), (.slice none 0 0), (.int .i64 0), (.bool false)], 38, true⟩, ⟨bq2, [(.int .i64 2), (.bool g2), (.slice (some ⟨bz, 0, none⟩) ((Nd.nd z)) cz), (.int .i64 e2), (.bool false)], 38, true⟩, ⟨bq1, [(.int .i64 2), (.bool g1), (.slice (some ⟨bx, 0, none⟩) ((Nd.nd x)) cx), (.int .i64 e1), (.bool false)], 38, true⟩] T.mixed (by kernel_rfl) (by kernel_rfl) (fuel := 15) rfl rfl ?_
   refine GH.take 0 (v := (.pointer (some ⟨bq1, 2, none⟩))) rfl (by kernel_rfl) (by kernel_rfl) (by kernel_rfl) (fun _ _ _ h => h) (Ex.cast (Ex.fieldAddr rfl Try.underlying38 rfl T.sz36 (by decide)) rfl) (ulC (ulC (ulC ulN))) (by decide) ?_
   refine GH.take 1 (v := (.slice (some ⟨bx, 0, none⟩) ((Nd.nd x)) cx)) rfl (by kernel_rfl) (by kernel_rfl) (by kernel_rfl) (fun _ _ _ h => h) (Ex.load rfl T.ag36 (i := 2) rfl rfl) (ulC (ulC (ulC ulN))) (by decide) ?_
   refine GH.take 2 (v := (.pointer (some ⟨bq1, 3, none⟩))) rfl (by kernel_rfl) (by kernel_rfl) (by kernel_rfl) (fun _ _ _ h => h) (Ex.cast (Ex.fieldAddr rfl Try.underlying38 rfl T.sz3 (by decide)) rfl) (ulC (ulC (ulC ulN))) (by decide) ?_
   refine GH.take 3 (v := (.int .i64 e1)) rfl (by kernel_rfl) (by kernel_rfl) (by kernel_rfl) (fun _ _ _ h => h) (Ex.load rfl T.ag3 (i := 2) rfl rfl) (ulC (ulC (ulC ulN))) (by decide) ?_
   refine GH.take 4 (v := (.int .i64 e)) rfl (by kernel_rfl) (by kernel_rfl) (by kernel_rfl) (fun _ _ _ h => h) (Ex.move rfl) (ulC (ulC (ulC ulN))) (by decide) ?_
   refine GH.take 5 (v := (.int .i64 (((n1 : Nat) : Int)))) rfl (by kernel_rfl) (by kernel_rfl) (by kernel_rfl) (fun _ _ _ h => h) (Ex.sub' rfl rfl (Z := ((n1 : Nat) : Int)) (by rw [w64 (by omega)]; omega)) (ulC (ulC (ulC ulN))) (by decide) ?_
   refine GH.take 7 (v := (.pointer (some ⟨bq2, 2, none⟩))) rfl (by kernel_rfl) (by kernel_rfl) (by kernel_rfl) (fun _ _ _ h => h) (Ex.cast (Ex.fieldAddr rfl Try.underlying38 rfl T.sz36 (by decide)) rfl) (ulC (ulC (ulC ulN))) (by decide) ?_
   refine GH.take 8 (v := (.slice (some ⟨bz, 0, none⟩) ((Nd.nd z)) cz)) rfl (by kernel_rfl) (by kernel_rfl) (by kernel_rfl) (fun _ _ _ h => h) (Ex.load rfl T.ag36 (i := 1) rfl rfl) (ulC (ulC (ulC ulN))) (by decide) ?_
   refine GH.take 9 (v := (.pointer (some ⟨bq2, 3, none⟩))) rfl (by kernel_rfl) (by kernel_rfl) (by kernel_rfl) (fun _ _ _ h => h) (Ex.cast (Ex.fieldAddr rfl Try.underlying38 rfl T.sz3 (by decide)) rfl) (ulC (ulC (ulC ulN))) (by decide) ?_
   refine GH.take 10 (v := (.int .i64 e2)) rfl (by kernel_rfl) (by kernel_rfl) (by kernel_rfl) (fun _ _ _ h => h) (Ex.load rfl T.ag3 (i := 1) rfl rfl) (ulC (ulC (ulC ulN))) (by decide) ?_
   refine GH.take 11 (v := (.int .i64 e)) rfl (by kernel_rfl) (by kernel_rfl) (by kernel_rfl) (fun _ _ _ h => h) (Ex.move rfl) (ulC (ulC (ulC ulN))) (by decide) ?_
   refine GH.take 12 (v := (.int .i64 (((n2 : Nat) : Int)))) rfl (by kernel_rfl) (by kernel_rfl) (by kernel_rfl) (fun _ _ _ h => h) (Ex.sub' rfl rfl (Z := ((n2 : Nat) : Int)) (by rw [w64 (by omega)]; omega)) (ulC (ulC (ulC ulN))) (by decide) ?_
   refine GH.one 6 rfl (by kernel_rfl) (Stp.callR (vs := [(.slice (some ⟨bx, 0, none⟩) ((Nd.nd x)) cx), (.int .i64 (((n1 : Nat) : Int)))]) rfl rfl T.own61 (by decide) (fun wc hw => up_b x bx cx n1 (Nd.nd x + n1 / 32 + 1) wc (hw.rd hrx (fun x => x)) (by omega) (by omega) (by omega) rfl)) (fun _ => (ulS (ulC (ulC (ulC ulN))))) (fun xq50 hq51 => ?_)
   refine GH.one 13 rfl (by kernel_rfl) (Stp.callR (vs := [(.slice (some ⟨bz, 0, none⟩) ((Nd.nd z)) cz), (.int .i64 (((n2 : Nat) : Int)))]) rfl rfl T.own61 (by decide) (fun wc hw => up_b z bz cz n2 (Nd.nd z + n2 / 32 + 1) wc (hw.rd hrz (fun x => x)) (by omega) (by omega) (by omega) rfl)) (fun _ => (ulS (ulS (ulC (ulC (ulC ulN)))))) (fun xq52 hq53 => ?_)
   refine GH.take 14 (v := (.slice (some ⟨xq50, 0, none⟩) ((Nd.nd (x * 2 ^ n1))) ((Nd.nd x + n1 / 32 + 1)))) rfl (by kernel_rfl) (by kernel_rfl) (by kernel_rfl) (fun _ _ _ h => h) (Ex.assign rfl) (ulS (ulS (ulC (ulC (ulC ulN))))) (by decide) ?_
   refine GH.done (by kernel_rfl) ?_
   refine GE.thenN ?_
   refine GE.tail rfl (Ex.wp (v := (.slice (some ⟨xq52, 0, none⟩) ((Nd.nd (z * 2 ^ n2))) ((Nd.nd z + n2 / 32 + 1)))) (Ex.assign rfl) (by decide)) (fun _ _ => ?_)
   refine GE.thenN ?_
   refine GC.seq ?_
   refine GC.seq ?_
   refine GC.region ?_
   refine GL.val (v := (.pointer (some ⟨bq1, 1, none⟩))) (Ex.cast (Ex.fieldAddr rfl Try.underlying38 rfl T.sz4 (by decide)) rfl) (by decide) ?_
   refine GL.val (Ex.load rfl T.ag4 (i := 4) rfl rfl) (by decide) ?_
   refine GL.val (v := (.pointer (some ⟨bq2, 1, none⟩))) (Ex.cast (Ex.fieldAddr rfl Try.underlying38 rfl T.sz4 (by decide)) rfl) (by decide) ?_
   refine GL.val (Ex.load rfl T.ag4 (i := 3) rfl rfl) (by decide) ?_
   refine GL.val (v := (.bool (g1 == g2))) (Ex.eqlB rfl rfl Try.underlying4) (by decide) ?_
   refine GL.nil ?_
   refine GE.thenN ?_
   refine GC.cond rfl (fun _ => ?_) (fun hq54 => by exfalso; rw [hg] at hq54; simp at hq54)
   refine GC.seq ?_
   refine GC.drawP [⟨xq52, (Nd.dl ((Nd.nd z + n2 / 32 + 1)) (z * 2 ^ n2)).map u32, 23, true⟩, ⟨xq50, (Nd.dl ((Nd.nd x + n1 / 32 + 1)) (x * 2 ^ n1)).map u32, 23, true⟩, ⟨bq3, [(.int .i64 0), (.bool false), (.slice none 0 0), (.int .i64 0), (.bool false)], 38, true⟩, ⟨bq2, [(.int .i64 2), (.bool g2), (.slice (some ⟨bz, 0, none⟩) ((Nd.nd z)) cz), (.int .i64 e2), (.bool false)], 38, true⟩, ⟨bq1, [(.int .i64 2), (.bool g1), (.slice (some ⟨bx, 0, none⟩) ((Nd.nd x)) cx), (.int .i64 e1), (.bool false)], 38, true⟩] T.mixed (by kernel_rfl) (by kernel_rfl) (fuel := 7) rfl rfl ?_
   refine GH.take 0 (v := (.pointer (some ⟨bq1, 1, none⟩))) rfl (by kernel_rfl) (by kernel_rfl) (by kernel_rfl) (fun _ _ _ h => h) (Ex.cast (Ex.fieldAddr rfl Try.underlying38 rfl T.sz4 (by decide)) rfl) (ulC (ulC (ulC (ulC (ulC ulN))))) (by decide) ?_
   refine GH.take 1 (v := (.bool g1)) rfl (by kernel_rfl) (by kernel_rfl) (by kernel_rfl) (fun _ _ _ h => h) (Ex.load rfl T.ag4 (i := 4) rfl rfl) (ulC (ulC (ulC (ulC (ulC ulN))))) (by decide) ?_
   refine GH.take 2 (v := (.slice (some ⟨xq50, 0, none⟩) ((Nd.nd (x * 2 ^ n1))) ((Nd.nd x + n1 / 32 + 1)))) rfl (by kernel_rfl) (by kernel_rfl) (by kernel_rfl) (fun _ _ _ h => h) (Ex.move rfl) (ulC (ulC (ulC (ulC (ulC ulN))))) (by decide) ?_
   refine GH.take 3 (v := (.slice (some ⟨xq52, 0, none⟩) ((Nd.nd (z * 2 ^ n2))) ((Nd.nd z + n2 / 32 + 1)))) rfl (by kernel_rfl) (by kernel_rfl) (by kernel_rfl) (fun _ _ _ h => h) (Ex.move rfl) (ulC (ulC (ulC (ulC (ulC ulN))))) (by decide) ?_
   refine GH.take 5 (v := (.int .i64 e)) rfl (by kernel_rfl) (by kernel_rfl) (by kernel_rfl) (fun _ _ _ h => h) (Ex.move rfl) (ulC (ulC (ulC (ulC (ulC ulN))))) (by decide) ?_
   refine GH.one 4 rfl (by kernel_rfl) (Stp.callR (vs := [(.slice (some ⟨xq50, 0, none⟩) ((Nd.nd (x * 2 ^ n1))) ((Nd.nd x + n1 / 32 + 1))), (.slice (some ⟨xq52, 0, none⟩) ((Nd.nd (z * 2 ^ n2))) ((Nd.nd z + n2 / 32 + 1)))]) rfl rfl T.own64 (by decide) (fun wc hw => plusV_bb (x * 2 ^ n1) xq50 ((Nd.nd x + n1 / 32 + 1)) (z * 2 ^ n2) xq52 ((Nd.nd z + n2 / 32 + 1)) (max (Nd.nd (x * 2 ^ n1)) (Nd.nd (z * 2 ^ n2)) + 1) wc (Nd.Nb.of (hw.rdOf (i := 1) rfl 0) Nd.up_lt) (by omega) (Nd.Nb.of (hw.rdOf (i := 0) rfl 0) Nd.up_lt) (by omega) rfl)) (fun _ => (ulS (ulC (ulC (ulC (ulC (ulC ulN))))))) (fun xq57 hq58 => ?_)
   refine GH.take 6 (v := (.agg #[(.int .i64 2), (.bool g1), (.slice (some ⟨xq57, 0, none⟩) ((Nd.nd ((x * 2 ^ n1) + (z * 2 ^ n2)))) ((max (Nd.nd (x * 2 ^ n1)) (Nd.nd (z * 2 ^ n2)) + 1))), (.int .i64 e), (.bool false)])) rfl (by kernel_rfl) (by kernel_rfl) (by kernel_rfl) (fun _ _ _ h => h) (Ex.build (vs := [(0, (.int .i64 2)), (1, (.bool g1)), (2, (.slice (some ⟨xq57, 0, none⟩) ((Nd.nd ((x * 2 ^ n1) + (z * 2 ^ n2)))) ((max (Nd.nd (x * 2 ^ n1)) (Nd.nd (z * 2 ^ n2)) + 1)))), (3, (.int .i64 e))]) rfl (by first | rfl | kernel_rfl)) (ulS (ulC (ulC (ulC (ulC (ulC ulN)))))) (by decide) ?_
   refine GH.done (by kernel_rfl) ?_
   refine GE.thenN ?_
   refine GE.tail rfl (Stp.st3 (cs' := [(.int .i64 2), (.bool g1), (.slice (some ⟨xq57, 0, none⟩) ((Nd.nd ((x * 2 ^ n1) + (z * 2 ^ n2)))) ((max (Nd.nd (x * 2 ^ n1)) (Nd.nd (z * 2 ^ n2)) + 1))), (.int .i64 e), (.bool false)]) rfl rfl rfl T.sz38 rfl rfl rfl) (fun _ _ => ?_)
   refine GE.thenN ?_
   refine GC.ret ?_
   refine GE.thenR ?_
   refine GC.ret1 rfl (Rv.cellA rfl T.ag38 T.sz38 (L := _) (i := 3) rfl (vs := [(.int .i64 2), (.bool g1), (.slice (some ⟨xq57, 0, none⟩) ((Nd.nd ((x * 2 ^ n1) + (z * 2 ^ n2)))) ((max (Nd.nd (x * 2 ^ n1)) (Nd.nd (z * 2 ^ n2)) + 1))), (.int .i64 e), (.bool false)]) rfl rfl) (fun wN HN => ?_)
   exact HN.ret (xq57, (max (Nd.nd (x * 2 ^ n1)) (Nd.nd (z * 2 ^ n2)) + 1)) (Nd.nd_le Nd.plus_lt) rfl (ulC (ulS (ulS (ulS (ulS (ulS ulN)))))) rfl

set_option maxRecDepth 100000 in
set_option maxHeartbeats 1000000 in
theorem pnum_gt (x bx cx z bz cz : Nat) (e e1 e2 : Int) (n1 n2 : Nat) (g1 g2 : Bool) (w : World) (hrx : Nd.Nb w bx x) (hnx : Nd.nd x ≤ 50) (hrz : Nd.Nb w bz z) (hnz : Nd.nd z ≤ 50) (he1 : e1 = e + ((n1 : Nat) : Int)) (he2 : e2 = e + ((n2 : Nat) : Int)) (hn12 : n1 = 0 ∨ n2 = 0) (hn1 : n1 ≤ 3000) (hn2 : n2 ≤ 3000) (heb : -100000 ≤ e ∧ e ≤ 100000) (hg : g1 ≠ g2) (hcs : z * 2 ^ n2 < x * 2 ^ n1) :
  Calls Try.prog 33 #[(.agg #[(.int .i64 2), (.bool g1), (.slice (some ⟨bx, 0, none⟩) ((Nd.nd x)) cx), (.int .i64 e1), (.bool false)]), (.agg #[(.int .i64 2), (.bool g2), (.slice (some ⟨bz, 0, none⟩) ((Nd.nd z)) cz), (.int .i64 e2), (.bool false)])] w (Ret w (fun z' : Nat × Nat => Nd.nd ((x * 2 ^ n1) - (z * 2 ^ n2)) ≤ z'.2) (fun z' => (.agg #[(.int .i64 2), (.bool g1), (.slice (some ⟨z'.1, 0, none⟩) ((Nd.nd ((x * 2 ^ n1) - (z * 2 ^ n2)))) z'.2), (.int .i64 e), (.bool false)])) (fun z' => [⟨z'.1, (Nd.dl z'.2 ((x * 2 ^ n1) - (z * 2 ^ n2))).map u32, 23, true⟩])) := by
 have hXn : Nd.nd (x * 2 ^ n1) ≤ Nd.nd x + n1 / 32 + 1 := Nd.nd_le Nd.up_lt
 have hZn : Nd.nd (z * 2 ^ n2) ≤ Nd.nd z + n2 / 32 + 1 := Nd.nd_le Nd.up_lt
 have hxp : x ≠ 0 := fun q => by rw [q, Nat.zero_mul] at hcs; exact Nat.not_lt_zero _ hcs
 refine enter (M := None) (L := []) (n := 97) (l := [(0, (.agg #[(.int .i64 2), (.bool g1), (.slice (some ⟨bx, 0, none⟩) ((Nd.nd x)) cx), (.int .i64 e1), (.bool false)])), (1, (.agg #[(.int .i64 2), (.bool g2), (.slice (some ⟨bz, 0, none⟩) ((Nd.nd z)) cz), (.int .i64 e2), (.bool false)]))]) Try.func33 rfl rfl (Args.cons rfl (Args.cons rfl (Args.nil _))) (Hp.start _ _) ?_
 refine GC.seq ?_
 refine GC.region ?_
 refine GL.step (Stp.box (cs := [(.int .i64 2), (.bool g1), (.slice (some ⟨bx, 0, none⟩) ((Nd.nd x)) cx), (.int .i64 e1), (.bool false)]) rfl rfl (by decide)) (fun bq1 _ => ?_)
 refine GL.step (Stp.box (cs := [(.int .i64 2), (.bool g2), (.slice (some ⟨bz, 0, none⟩) ((Nd.nd z)) cz), (.int .i64 e2), (.bool false)]) rfl rfl (by decide)) (fun bq2 _ => ?_)
 refine GL.step (Stp.alloc T.zr38 (by decide)) (fun bq3 _ => ?_)
 refine GL.nil ?_
 refine GE.thenN ?_
 refine GC.seq ?_
 refine GC.seq ?_
 refine GC.region ?_
 refine GL.val (v := (.pointer (some ⟨bq1, 0, none⟩))) (Ex.cast (Ex.fieldAddr rfl Try.underlying38 rfl T.sz3 (by decide)) rfl) (by decide) ?_
 refine GL.val (Ex.load rfl T.ag3 (i := 2) rfl rfl) (by decide) ?_
 refine GL.val (v := (.bool false)) (Ex.cast (Ex.eql rfl rfl) rfl) (by decide) ?_
 refine GL.val (Ex.move rfl) (by decide) ?_
 refine GL.stepG (tj := 12) rfl rfl (Ex.wp (v := (.pointer (some ⟨bq2, 0, none⟩))) (Ex.cast (Ex.fieldAddr rfl Try.underlying38 rfl T.sz3 (by decide)) rfl) (by decide)) (fun _ _ => ?_)
 refine GL.stepG (tj := 12) rfl rfl (Ex.wp (v := (.int .i64 2)) (Ex.load rfl T.ag3 (i := 1) rfl rfl) (by decide)) (fun _ _ => ?_)
 refine GL.stepG (tj := 12) rfl rfl (Ex.wp (v := (.bool false)) (Ex.cast (Ex.eql rfl rfl) rfl) (by decide)) (fun _ _ => ?_)
 refine GL.val (v := (.bool false)) (Ex.pickF rfl rfl) (by decide) ?_
 refine GL.val (Ex.move rfl) (by decide) ?_
 refine GL.stepG (tj := 17) rfl rfl (Ex.wp (v := (.pointer (some ⟨bq1, 0, none⟩))) (Ex.cast (Ex.fieldAddr rfl Try.underlying38 rfl T.sz3 (by decide)) rfl) (by decide)) (fun _ _ => ?_)
 refine GL.stepG (tj := 17) rfl rfl (Ex.wp (v := (.int .i64 2)) (Ex.load rfl T.ag3 (i := 2) rfl rfl) (by decide)) (fun _ _ => ?_)
 refine GL.stepG (tj := 17) rfl rfl (Ex.wp (v := (.bool false)) (Ex.cast (Ex.eql rfl rfl) rfl) (by decide)) (fun _ _ => ?_)
 refine GL.stepG (tj := 17) rfl rfl (Ex.wp (v := (.bool false)) (Ex.move rfl) (by decide)) (fun _ _ => ?_)
 refine GL.skipG (tj := 21) rfl rfl rfl (by decide) ?_
 refine GL.skipG (tj := 21) rfl rfl rfl (by decide) ?_
 refine GL.skipG (tj := 21) rfl rfl rfl (by decide) ?_
 refine GL.stepG (tj := 17) rfl rfl (Ex.wp (v := (.bool false)) (Ex.pickF rfl rfl) (by decide)) (fun _ _ => ?_)
 refine GL.stepG (tj := 17) rfl rfl (Ex.wp (v := (.bool false)) (Ex.move rfl) (by decide)) (fun _ _ => ?_)
 refine GL.skipG (tj := 26) rfl rfl rfl (by decide) ?_
 refine GL.skipG (tj := 26) rfl rfl rfl (by decide) ?_
 refine GL.skipG (tj := 26) rfl rfl rfl (by decide) ?_
 refine GL.skipG (tj := 26) rfl rfl rfl (by decide) ?_
 refine GL.skipG (tj := 26) rfl rfl rfl (by decide) ?_
 refine GL.stepG (tj := 17) rfl rfl (Ex.wp (v := (.bool false)) (Ex.pickF rfl rfl) (by decide)) (fun _ _ => ?_)
 refine GL.val (v := (.bool false)) (Ex.pickF rfl rfl) (by decide) ?_
 refine GL.nil ?_
 refine GE.thenN ?_
 refine GC.cond rfl (fun hq4 => by cases hq4) (fun _ => ?_)
 refine GC.skip ?_
 refine GE.thenN ?_
 refine GC.seq ?_
 refine GC.seq ?_
 refine GC.region ?_
 refine GL.val (v := (.pointer (some ⟨bq1, 0, none⟩))) (Ex.cast (Ex.fieldAddr rfl Try.underlying38 rfl T.sz3 (by decide)) rfl) (by decide) ?_
 refine GL.val (Ex.load rfl T.ag3 (i := 2) rfl rfl) (by decide) ?_
 refine GL.val (v := (.bool false)) (Ex.cast (Ex.eql rfl rfl) rfl) (by decide) ?_
 refine GL.nil ?_
 refine GE.thenN ?_
 refine GC.cond rfl (fun hq5 => by cases hq5) (fun _ => ?_)
 refine GC.skip ?_
 refine GE.thenN ?_
 refine GC.seq ?_
 refine GC.seq ?_
 refine GC.region ?_
 refine GL.val (v := (.pointer (some ⟨bq2, 0, none⟩))) (Ex.cast (Ex.fieldAddr rfl Try.underlying38 rfl T.sz3 (by decide)) rfl) (by decide) ?_
 refine GL.val (Ex.load rfl T.ag3 (i := 1) rfl rfl) (by decide) ?_
 refine GL.val (v := (.bool false)) (Ex.cast (Ex.eql rfl rfl) rfl) (by decide) ?_
 refine GL.nil ?_
 refine GE.thenN ?_
 refine GC.cond rfl (fun hq6 => by cases hq6) (fun _ => ?_)
 refine GC.skip ?_
 refine GE.thenN ?_
 refine GC.seq ?_
 refine GC.region ?_
 refine GL.val (v := (.pointer (some ⟨bq1, 3, none⟩))) (Ex.cast (Ex.fieldAddr rfl Try.underlying38 rfl T.sz3 (by decide)) rfl) (by decide) ?_
 refine GL.val (Ex.load rfl T.ag3 (i := 2) rfl rfl) (by decide) ?_
 refine GL.val (v := (.pointer (some ⟨bq2, 3, none⟩))) (Ex.cast (Ex.fieldAddr rfl Try.underlying38 rfl T.sz3 (by decide)) rfl) (by decide) ?_
 refine GL.val (Ex.load rfl T.ag3 (i := 1) rfl rfl) (by decide) ?_
 refine GL.val (v := (.int .i64 e)) (Ex.minI rfl rfl (Z := e) (by split <;> omega)) (by decide) ?_
 refine GL.val (Ex.assign rfl) (by decide) ?_
 refine GL.nil ?_
 refine GE.thenN ?_
 refine GC.seq ?_
 by_cases hz0 : z = 0
 ·refine GC.drawP [⟨bq3, [(.int .i64 0), (.bool false), (.slice none 0 0), (.int .i64 0), (.bool false)], 38, true⟩, ⟨bq2, [(.int .i64 2), (.bool g2), (.slice (some ⟨bz, 0, none⟩) ((Nd.nd z)) cz), (.int .i64 e2), (.bool false)], 38, true⟩, ⟨bq1, [(.int .i64 2), (.bool g1), (.slice (some ⟨bx, 0, none⟩) ((Nd.nd x)) cx), (.int .i64 e1), (.bool false)], 38, true⟩] T.mixed (by kernel_rfl) (by kernel_rfl) (fuel := 15) rfl rfl ?_
  refine GH.take 0 (v := (.pointer (some ⟨bq1, 2, none⟩))) rfl (by kernel_rfl) (by kernel_rfl) (by kernel_rfl) (fun _ _ _ h => h) (Ex.cast (Ex.fieldAddr rfl Try.underlying38 rfl T.sz36 (by decide)) rfl) (ulC (ulC (ulC ulN))) (by decide) ?_
  refine GH.take 1 (v := (.slice (some ⟨bx, 0, none⟩) ((Nd.nd x)) cx)) rfl (by kernel_rfl) (by kernel_rfl) (by kernel_rfl) (fun _ _ _ h => h) (Ex.load rfl T.ag36 (i := 2) rfl rfl) (ulC (ulC (ulC ulN))) (by decide) ?_
  refine GH.take 2 (v := (.pointer (some ⟨bq1, 3, none⟩))) rfl (by kernel_rfl) (by kernel_rfl) (by kernel_rfl) (fun _ _ _ h => h) (Ex.cast (Ex.fieldAddr rfl Try.underlying38 rfl T.sz3 (by decide)) rfl) (ulC (ulC (ulC ulN))) (by decide) ?_
  refine GH.take 3 (v := (.int .i64 e1)) rfl (by kernel_rfl) (by kernel_rfl) (by kernel_rfl) (fun _ _ _ h => h) (Ex.load rfl T.ag3 (i := 2) rfl rfl) (ulC (ulC (ulC ulN))) (by decide) ?_
  refine GH.take 4 (v := (.int .i64 e)) rfl (by kernel_rfl) (by kernel_rfl) (by kernel_rfl) (fun _ _ _ h => h) (Ex.move rfl) (ulC (ulC (ulC ulN))) (by decide) ?_
  refine GH.take 5 (v := (.int .i64 (((n1 : Nat) : Int)))) rfl (by kernel_rfl) (by kernel_rfl) (by kernel_rfl) (fun _ _ _ h => h) (Ex.sub' rfl rfl (Z := ((n1 : Nat) : Int)) (by rw [w64 (by omega)]; omega)) (ulC (ulC (ulC ulN))) (by decide) ?_
  refine GH.take 7 (v := (.pointer (some ⟨bq2, 2, none⟩))) rfl (by kernel_rfl) (by kernel_rfl) (by kernel_rfl) (fun _ _ _ h => h) (Ex.cast (Ex.fieldAddr rfl Try.underlying38 rfl T.sz36 (by decide)) rfl) (ulC (ulC (ulC ulN))) (by decide) ?_
  refine GH.take 8 (v := (.slice (some ⟨bz, 0, none⟩) ((Nd.nd z)) cz)) rfl (by kernel_rfl) (by kernel_rfl) (by kernel_rfl) (fun _ _ _ h => h) (Ex.load rfl T.ag36 (i := 1) rfl rfl) (ulC (ulC (ulC ulN))) (by decide) ?_
  refine GH.take 9 (v := (.pointer (some ⟨bq2, 3, none⟩))) rfl (by kernel_rfl) (by kernel_rfl) (by kernel_rfl) (fun _ _ _ h => h) (Ex.cast (Ex.fieldAddr rfl Try.underlying38 rfl T.sz3 (by decide)) rfl) (ulC (ulC (ulC ulN))) (by decide) ?_
  refine GH.take 10 (v := (.int .i64 e2)) rfl (by kernel_rfl) (by kernel_rfl) (by kernel_rfl) (fun _ _ _ h => h) (Ex.load rfl T.ag3 (i := 1) rfl rfl) (ulC (ulC (ulC ulN))) (by decide) ?_
  refine GH.take 11 (v := (.int .i64 e)) rfl (by kernel_rfl) (by kernel_rfl) (by kernel_rfl) (fun _ _ _ h => h) (Ex.move rfl) (ulC (ulC (ulC ulN))) (by decide) ?_
  refine GH.take 12 (v := (.int .i64 (((n2 : Nat) : Int)))) rfl (by kernel_rfl) (by kernel_rfl) (by kernel_rfl) (fun _ _ _ h => h) (Ex.sub' rfl rfl (Z := ((n2 : Nat) : Int)) (by rw [w64 (by omega)]; omega)) (ulC (ulC (ulC ulN))) (by decide) ?_
  refine GH.one 6 rfl (by kernel_rfl) (Stp.callR (vs := [(.slice (some ⟨bx, 0, none⟩) ((Nd.nd x)) cx), (.int .i64 (((n1 : Nat) : Int)))]) rfl rfl T.own61 (by decide) (fun wc hw => up_b x bx cx n1 (Nd.nd x + n1 / 32 + 1) wc (hw.rd hrx (fun x => x)) (by omega) (by omega) (by omega) rfl)) (fun _ => (ulS (ulC (ulC (ulC ulN))))) (fun xq11 hq12 => ?_)
  refine GH.one 13 rfl (by kernel_rfl) (Stp.callR (vs := [(.slice (some ⟨bz, 0, none⟩) ((Nd.nd z)) cz), (.int .i64 (((n2 : Nat) : Int)))]) rfl rfl T.own61 (by decide) (fun wc hw => up_z z bz cz n2 wc (by rw [hz0]; rfl))) (fun _ => (ulS (ulC (ulC (ulC ulN))))) (fun xq13 hq14 => ?_)
  refine GH.take 14 (v := (.slice (some ⟨xq11, 0, none⟩) ((Nd.nd (x * 2 ^ n1))) ((Nd.nd x + n1 / 32 + 1)))) rfl (by kernel_rfl) (by kernel_rfl) (by kernel_rfl) (fun _ _ _ h => h) (Ex.assign rfl) (ulS (ulC (ulC (ulC ulN)))) (by decide) ?_
  refine GH.done (by kernel_rfl) ?_
  refine GE.thenN ?_
  refine GE.tail rfl (Ex.wp (v := (.slice none 0 0)) (Ex.assign rfl) (by decide)) (fun _ _ => ?_)
  refine GE.thenN ?_
  refine GC.seq ?_
  refine GC.seq ?_
  refine GC.region ?_
  refine GL.val (v := (.pointer (some ⟨bq1, 1, none⟩))) (Ex.cast (Ex.fieldAddr rfl Try.underlying38 rfl T.sz4 (by decide)) rfl) (by decide) ?_
  refine GL.val (Ex.load rfl T.ag4 (i := 3) rfl rfl) (by decide) ?_
  refine GL.val (v := (.pointer (some ⟨bq2, 1, none⟩))) (Ex.cast (Ex.fieldAddr rfl Try.underlying38 rfl T.sz4 (by decide)) rfl) (by decide) ?_
  refine GL.val (Ex.load rfl T.ag4 (i := 2) rfl rfl) (by decide) ?_
  refine GL.val (v := (.bool (g1 == g2))) (Ex.eqlB rfl rfl Try.underlying4) (by decide) ?_
  refine GL.nil ?_
  refine GE.thenN ?_
  refine GC.cond rfl (fun hq15 => by exfalso; exact hg (by simpa using hq15)) (fun _ => ?_)
  refine GC.skip ?_
  refine GE.thenN ?_
  refine GC.seq ?_
  refine GC.region ?_
  refine GL.val (Ex.move rfl) (by decide) ?_
  refine GL.val (Ex.move rfl) (by decide) ?_
  refine GL.step (Stp.callR (σ := Unit) (p := fun rz => True) (v := fun rz => (.int .i64 1)) (N := fun rz => []) (vs := [(.slice (some ⟨xq11, 0, none⟩) ((Nd.nd (x * 2 ^ n1))) ((Nd.nd x + n1 / 32 + 1))), (.slice none 0 0)]) rfl rfl T.own60 (by decide) (fun wc hw => (by have h := cmpV_bn (x * 2 ^ n1) xq11 ((Nd.nd x + n1 / 32 + 1)) (z * 2 ^ n2) none 0 wc (Nd.Nb.of (hw.rdOf (i := 0) rfl 0) Nd.up_lt) (by omega) (by rw [hz0, Nat.zero_mul]); rw [← Nd.cmp_gt hcs] at h; exact h))) (fun xq16 hq17 => ?_)
  refine GL.val (Ex.assign rfl) (by decide) ?_
  refine GL.nil ?_
  refine GE.thenN ?_
  refine GC.seq ?_
  refine GC.seq ?_
  refine GC.region ?_
  refine GL.val (Ex.move rfl) (by decide) ?_
  refine GL.val (v := (.bool false)) (Ex.cast (Ex.eql rfl rfl) rfl) (by decide) ?_
  refine GL.nil ?_
  refine GE.thenN ?_
  refine GC.cond rfl (fun hq18 => by cases hq18) (fun _ => ?_)
  refine GC.skip ?_
  refine GE.thenN ?_
  refine GC.seq ?_
  refine GC.seq ?_
  refine GC.region ?_
  refine GL.val (Ex.move rfl) (by decide) ?_
  refine GL.val (v := (.bool true)) (Ex.cast (Ex.gtr rfl rfl) rfl) (by decide) ?_
  refine GL.nil ?_
  refine GE.thenN ?_
  refine GC.cond rfl (fun _ => ?_) (fun hq19 => by cases hq19)
  refine GC.seq ?_
  refine GC.drawP [⟨xq11, (Nd.dl ((Nd.nd x + n1 / 32 + 1)) (x * 2 ^ n1)).map u32, 23, true⟩, ⟨bq3, [(.int .i64 0), (.bool false), (.slice none 0 0), (.int .i64 0), (.bool false)], 38, true⟩, ⟨bq2, [(.int .i64 2), (.bool g2), (.slice (some ⟨bz, 0, none⟩) ((Nd.nd z)) cz), (.int .i64 e2), (.bool false)], 38, true⟩, ⟨bq1, [(.int .i64 2), (.bool g1), (.slice (some ⟨bx, 0, none⟩) ((Nd.nd x)) cx), (.int .i64 e1), (.bool false)], 38, true⟩] T.mixed (by kernel_rfl) (by kernel_rfl) (fuel := 7) rfl rfl ?_
  refine GH.take 0 (v := (.pointer (some ⟨bq1, 1, none⟩))) rfl (by kernel_rfl) (by kernel_rfl) (by kernel_rfl) (fun _ _ _ h => h) (Ex.cast (Ex.fieldAddr rfl Try.underlying38 rfl T.sz4 (by decide)) rfl) (ulC (ulC (ulC (ulC ulN)))) (by decide) ?_
  refine GH.take 1 (v := (.bool g1)) rfl (by kernel_rfl) (by kernel_rfl) (by kernel_rfl) (fun _ _ _ h => h) (Ex.load rfl T.ag4 (i := 3) rfl rfl) (ulC (ulC (ulC (ulC ulN)))) (by decide) ?_
  refine GH.take 2 (v := (.slice (some ⟨xq11, 0, none⟩) ((Nd.nd (x * 2 ^ n1))) ((Nd.nd x + n1 / 32 + 1)))) rfl (by kernel_rfl) (by kernel_rfl) (by kernel_rfl) (fun _ _ _ h => h) (Ex.move rfl) (ulC (ulC (ulC (ulC ulN)))) (by decide) ?_
  refine GH.take 3 (v := (.slice none 0 0)) rfl (by kernel_rfl) (by kernel_rfl) (by kernel_rfl) (fun _ _ _ h => h) (Ex.move rfl) (ulC (ulC (ulC (ulC ulN)))) (by decide) ?_
  refine GH.take 5 (v := (.int .i64 e)) rfl (by kernel_rfl) (by kernel_rfl) (by kernel_rfl) (fun _ _ _ h => h) (Ex.move rfl) (ulC (ulC (ulC (ulC ulN)))) (by decide) ?_
  refine GH.one 4 rfl (by kernel_rfl) (Stp.callR (vs := [(.slice (some ⟨xq11, 0, none⟩) ((Nd.nd (x * 2 ^ n1))) ((Nd.nd x + n1 / 32 + 1))), (.slice none 0 0)]) rfl rfl T.own65 (by decide) (fun wc hw => minusV_bn (x * 2 ^ n1) xq11 ((Nd.nd x + n1 / 32 + 1)) (z * 2 ^ n2) none 0 wc (Nd.Nb.of (hw.rdOf (i := 0) rfl 0) Nd.up_lt) (by omega) (by rw [hz0, Nat.zero_mul]) (Nat.le_of_lt hcs))) (fun _ => (ulS (ulC (ulC (ulC (ulC ulN)))))) (fun xq22 hq23 => ?_)
  refine GH.take 6 (v := (.agg #[(.int .i64 2), (.bool g1), (.slice (some ⟨xq22, 0, none⟩) ((Nd.nd ((x * 2 ^ n1) - (z * 2 ^ n2)))) ((Nd.nd ((x * 2 ^ n1))))), (.int .i64 e), (.bool false)])) rfl (by kernel_rfl) (by kernel_rfl) (by kernel_rfl) (fun _ _ _ h => h) (Ex.build (vs := [(0, (.int .i64 2)), (1, (.bool g1)), (2, (.slice (some ⟨xq22, 0, none⟩) ((Nd.nd ((x * 2 ^ n1) - (z * 2 ^ n2)))) ((Nd.nd ((x * 2 ^ n1)))))), (3, (.int .i64 e))]) rfl (by first | rfl | kernel_rfl)) (ulS (ulC (ulC (ulC (ulC ulN))))) (by decide) ?_
  refine GH.done (by kernel_rfl) ?_
  refine GE.thenN ?_
  refine GE.tail rfl (Stp.st2 (cs' := [(.int .i64 2), (.bool g1), (.slice (some ⟨xq22, 0, none⟩) ((Nd.nd ((x * 2 ^ n1) - (z * 2 ^ n2)))) ((Nd.nd ((x * 2 ^ n1))))), (.int .i64 e), (.bool false)]) rfl rfl rfl T.sz38 rfl rfl rfl) (fun _ _ => ?_)
  refine GE.thenN ?_
  refine GC.ret ?_
  refine GE.thenR ?_
  refine GC.ret1 rfl (Rv.cellA rfl T.ag38 T.sz38 (L := _) (i := 2) rfl (vs := [(.int .i64 2), (.bool g1), (.slice (some ⟨xq22, 0, none⟩) ((Nd.nd ((x * 2 ^ n1) - (z * 2 ^ n2)))) ((Nd.nd ((x * 2 ^ n1))))), (.int .i64 e), (.bool false)]) rfl rfl) (fun wN HN => ?_)
  exact HN.ret (xq22, (Nd.nd ((x * 2 ^ n1)))) (Nd.nd_mono (Nat.sub_le _ _)) rfl (ulC (ulS (ulS (ulS (ulS ulN))))) rfl
 ·refine GC.drawP [⟨bq3, [(.int .i64 0), (.bool false), (.slice none 0 0), (.int .i64 0), (.bool false)], 38, true⟩, ⟨bq2, [(.int .i64 2), (.bool g2), (.slice (some ⟨bz, 0, none⟩) ((Nd.nd z)) cz), (.int .i64 e2), (.bool false)], 38, true⟩, ⟨bq1, [(.int .i64 2), (.bool g1), (.slice (some ⟨bx, 0, none⟩) ((Nd.nd x)) cx), (.int .i64 e1), (.bool false)], 38, true⟩] T.mixed (by kernel_rfl) (by kernel_rfl) (fuel := 15) rfl rfl ?_
  refine GH.take 0 (v := (.pointer (some ⟨bq1, 2, none⟩))) rfl (by kernel_rfl) (by kernel_rfl) (by kernel_rfl) (fun _ _ _ h => h) (Ex.cast (Ex.fieldAddr rfl Try.underlying38 rfl T.sz36 (by decide)) rfl) (ulC (ulC (ulC ulN))) (by decide) ?_
  refine GH.take 1 (v := (.slice (some ⟨bx, 0, none⟩) ((Nd.nd x)) cx)) rfl (by kernel_rfl) (by kernel_rfl) (by kernel_rfl) (fun _ _ _ h => h) (Ex.load rfl T.ag36 (i := 2) rfl rfl) (ulC (ulC (ulC ulN))) (by decide) ?_
  refine GH.take 2 (v := (.pointer (some ⟨bq1, 3, none⟩))) rfl (by kernel_rfl) (by kernel_rfl) (by kernel_rfl) (fun _ _ _ h => h) (Ex.cast (Ex.fieldAddr rfl Try.underlying38 rfl T.sz3 (by decide)) rfl) (ulC (ulC (ulC ulN))) (by decide) ?_
  refine GH.take 3 (v := (.int .i64 e1)) rfl (by kernel_rfl) (by kernel_rfl) (by kernel_rfl) (fun _ _ _ h => h) (Ex.load rfl T.ag3 (i := 2) rfl rfl) (ulC (ulC (ulC ulN))) (by decide) ?_
  refine GH.take 4 (v := (.int .i64 e)) rfl (by kernel_rfl) (by kernel_rfl) (by kernel_rfl) (fun _ _ _ h => h) (Ex.move rfl) (ulC (ulC (ulC ulN))) (by decide) ?_
  refine GH.take 5 (v := (.int .i64 (((n1 : Nat) : Int)))) rfl (by kernel_rfl) (by kernel_rfl) (by kernel_rfl) (fun _ _ _ h => h) (Ex.sub' rfl rfl (Z := ((n1 : Nat) : Int)) (by rw [w64 (by omega)]; omega)) (ulC (ulC (ulC ulN))) (by decide) ?_
  refine GH.take 7 (v := (.pointer (some ⟨bq2, 2, none⟩))) rfl (by kernel_rfl) (by kernel_rfl) (by kernel_rfl) (fun _ _ _ h => h) (Ex.cast (Ex.fieldAddr rfl Try.underlying38 rfl T.sz36 (by decide)) rfl) (ulC (ulC (ulC ulN))) (by decide) ?_
  refine GH.take 8 (v := (.slice (some ⟨bz, 0, none⟩) ((Nd.nd z)) cz)) rfl (by kernel_rfl) (by kernel_rfl) (by kernel_rfl) (fun _ _ _ h => h) (Ex.load rfl T.ag36 (i := 1) rfl rfl) (ulC (ulC (ulC ulN))) (by decide) ?_
  refine GH.take 9 (v := (.pointer (some ⟨bq2, 3, none⟩))) rfl (by kernel_rfl) (by kernel_rfl) (by kernel_rfl) (fun _ _ _ h => h) (Ex.cast (Ex.fieldAddr rfl Try.underlying38 rfl T.sz3 (by decide)) rfl) (ulC (ulC (ulC ulN))) (by decide) ?_
  refine GH.take 10 (v := (.int .i64 e2)) rfl (by kernel_rfl) (by kernel_rfl) (by kernel_rfl) (fun _ _ _ h => h) (Ex.load rfl T.ag3 (i := 1) rfl rfl) (ulC (ulC (ulC ulN))) (by decide) ?_
  refine GH.take 11 (v := (.int .i64 e)) rfl (by kernel_rfl) (by kernel_rfl) (by kernel_rfl) (fun _ _ _ h => h) (Ex.move rfl) (ulC (ulC (ulC ulN))) (by decide) ?_
  refine GH.take 12 (v := (.int .i64 (((n2 : Nat) : Int)))) rfl (by kernel_rfl) (by kernel_rfl) (by kernel_rfl) (fun _ _ _ h => h) (Ex.sub' rfl rfl (Z := ((n2 : Nat) : Int)) (by rw [w64 (by omega)]; omega)) (ulC (ulC (ulC ulN))) (by decide) ?_
  refine GH.one 6 rfl (by kernel_rfl) (Stp.callR (vs := [(.slice (some ⟨bx, 0, none⟩) ((Nd.nd x)) cx), (.int .i64 (((n1 : Nat) : Int)))]) rfl rfl T.own61 (by decide) (fun wc hw => up_b x bx cx n1 (Nd.nd x + n1 / 32 + 1) wc (hw.rd hrx (fun x => x)) (by omega) (by omega) (by omega) rfl)) (fun _ => (ulS (ulC (ulC (ulC ulN))))) (fun xq28 hq29 => ?_)
  refine GH.one 13 rfl (by kernel_rfl) (Stp.callR (vs := [(.slice (some ⟨bz, 0, none⟩) ((Nd.nd z)) cz), (.int .i64 (((n2 : Nat) : Int)))]) rfl rfl T.own61 (by decide) (fun wc hw => up_b z bz cz n2 (Nd.nd z + n2 / 32 + 1) wc (hw.rd hrz (fun x => x)) (by omega) (by omega) (by omega) rfl)) (fun _ => (ulS (ulS (ulC (ulC (ulC ulN)))))) (fun xq30 hq31 => ?_)
  refine GH.take 14 (v := (.slice (some ⟨xq28, 0, none⟩) ((Nd.nd (x * 2 ^ n1))) ((Nd.nd x + n1 / 32 + 1)))) rfl (by kernel_rfl) (by kernel_rfl) (by kernel_rfl) (fun _ _ _ h => h) (Ex.assign rfl) (ulS (ulS (ulC (ulC (ulC ulN))))) (by decide) ?_
  refine GH.done (by kernel_rfl) ?_
  refine GE.thenN ?_
  refine GE.tail rfl (Ex.wp (v := (.slice (some ⟨xq30, 0, none⟩) ((Nd.nd (z * 2 ^ n2))) ((Nd.nd z + n2 / 32 + 1)))) (Ex.assign rfl) (by decide)) (fun _ _ => ?_)
  refine GE.thenN ?_
  refine GC.seq ?_
  refine GC.seq ?_
  refine GC.region ?_
  refine GL.val (v := (.pointer (some ⟨bq1, 1, none⟩))) (Ex.cast (Ex.fieldAddr rfl Try.underlying38 rfl T.sz4 (by decide)) rfl) (by decide) ?_
  refine GL.val (Ex.load rfl T.ag4 (i := 4) rfl rfl) (by decide) ?_
  refine GL.val (v := (.pointer (some ⟨bq2, 1, none⟩))) (Ex.cast (Ex.fieldAddr rfl Try.underlying38 rfl T.sz4 (by decide)) rfl) (by decide) ?_
  refine GL.val (Ex.load rfl T.ag4 (i := 3) rfl rfl) (by decide) ?_
  refine GL.val (v := (.bool (g1 == g2))) (Ex.eqlB rfl rfl Try.underlying4) (by decide) ?_
  refine GL.nil ?_
  refine GE.thenN ?_
  refine GC.cond rfl (fun hq32 => by exfalso; exact hg (by simpa using hq32)) (fun _ => ?_)
  refine GC.skip ?_
  refine GE.thenN ?_
  refine GC.seq ?_
  refine GC.region ?_
  refine GL.val (Ex.move rfl) (by decide) ?_
  refine GL.val (Ex.move rfl) (by decide) ?_
  refine GL.step (Stp.callR (σ := Unit) (p := fun rz => True) (v := fun rz => (.int .i64 1)) (N := fun rz => []) (vs := [(.slice (some ⟨xq28, 0, none⟩) ((Nd.nd (x * 2 ^ n1))) ((Nd.nd x + n1 / 32 + 1))), (.slice (some ⟨xq30, 0, none⟩) ((Nd.nd (z * 2 ^ n2))) ((Nd.nd z + n2 / 32 + 1)))]) rfl rfl T.own60 (by decide) (fun wc hw => (by have h := cmpV_bb (x * 2 ^ n1) xq28 ((Nd.nd x + n1 / 32 + 1)) (z * 2 ^ n2) xq30 ((Nd.nd z + n2 / 32 + 1)) wc (Nd.Nb.of (hw.rdOf (i := 1) rfl 0) Nd.up_lt) (by omega) (Nd.Nb.of (hw.rdOf (i := 0) rfl 0) Nd.up_lt) (by omega); rw [← Nd.cmp_gt hcs] at h; exact h))) (fun xq33 hq34 => ?_)
  refine GL.val (Ex.assign rfl) (by decide) ?_
  refine GL.nil ?_
  refine GE.thenN ?_
  refine GC.seq ?_
  refine GC.seq ?_
  refine GC.region ?_
  refine GL.val (Ex.move rfl) (by decide) ?_
  refine GL.val (v := (.bool false)) (Ex.cast (Ex.eql rfl rfl) rfl) (by decide) ?_
  refine GL.nil ?_
  refine GE.thenN ?_
  refine GC.cond rfl (fun hq35 => by cases hq35) (fun _ => ?_)
  refine GC.skip ?_
  refine GE.thenN ?_
  refine GC.seq ?_
  refine GC.seq ?_
  refine GC.region ?_
  refine GL.val (Ex.move rfl) (by decide) ?_
  refine GL.val (v := (.bool true)) (Ex.cast (Ex.gtr rfl rfl) rfl) (by decide) ?_
  refine GL.nil ?_
  refine GE.thenN ?_
  refine GC.cond rfl (fun _ => ?_) (fun hq36 => by cases hq36)
  refine GC.seq ?_
  refine GC.drawP [⟨xq30, (Nd.dl ((Nd.nd z + n2 / 32 + 1)) (z * 2 ^ n2)).map u32, 23, true⟩, ⟨xq28, (Nd.dl ((Nd.nd x + n1 / 32 + 1)) (x * 2 ^ n1)).map u32, 23, true⟩, ⟨bq3, [(.int .i64 0), (.bool false), (.slice none 0 0), (.int .i64 0), (.bool false)], 38, true⟩, ⟨bq2, [(.int .i64 2), (.bool g2), (.slice (some ⟨bz, 0, none⟩) ((Nd.nd z)) cz), (.int .i64 e2), (.bool false)], 38, true⟩, ⟨bq1, [(.int .i64 2), (.bool g1), (.slice (some ⟨bx, 0, none⟩) ((Nd.nd x)) cx), (.int .i64 e1), (.bool false)], 38, true⟩] T.mixed (by kernel_rfl) (by kernel_rfl) (fuel := 7) rfl rfl ?_
  refine GH.take 0 (v := (.pointer (some ⟨bq1, 1, none⟩))) rfl (by kernel_rfl) (by kernel_rfl) (by kernel_rfl) (fun _ _ _ h => h) (Ex.cast (Ex.fieldAddr rfl Try.underlying38 rfl T.sz4 (by decide)) rfl) (ulC (ulC (ulC (ulC (ulC ulN))))) (by decide) ?_
  refine GH.take 1 (v := (.bool g1)) rfl (by kernel_rfl) (by kernel_rfl) (by kernel_rfl) (fun _ _ _ h => h) (Ex.load rfl T.ag4 (i := 4) rfl rfl) (ulC (ulC (ulC (ulC (ulC ulN))))) (by decide) ?_
  refine GH.take 2 (v := (.slice (some ⟨xq28, 0, none⟩) ((Nd.nd (x * 2 ^ n1))) ((Nd.nd x + n1 / 32 + 1)))) rfl (by kernel_rfl) (by kernel_rfl) (by kernel_rfl) (fun _ _ _ h => h) (Ex.move rfl) (ulC (ulC (ulC (ulC (ulC ulN))))) (by decide) ?_
  refine GH.take 3 (v := (.slice (some ⟨xq30, 0, none⟩) ((Nd.nd (z * 2 ^ n2))) ((Nd.nd z + n2 / 32 + 1)))) rfl (by kernel_rfl) (by kernel_rfl) (by kernel_rfl) (fun _ _ _ h => h) (Ex.move rfl) (ulC (ulC (ulC (ulC (ulC ulN))))) (by decide) ?_
  refine GH.take 5 (v := (.int .i64 e)) rfl (by kernel_rfl) (by kernel_rfl) (by kernel_rfl) (fun _ _ _ h => h) (Ex.move rfl) (ulC (ulC (ulC (ulC (ulC ulN))))) (by decide) ?_
  refine GH.one 4 rfl (by kernel_rfl) (Stp.callR (vs := [(.slice (some ⟨xq28, 0, none⟩) ((Nd.nd (x * 2 ^ n1))) ((Nd.nd x + n1 / 32 + 1))), (.slice (some ⟨xq30, 0, none⟩) ((Nd.nd (z * 2 ^ n2))) ((Nd.nd z + n2 / 32 + 1)))]) rfl rfl T.own65 (by decide) (fun wc hw => minusV_bb (x * 2 ^ n1) xq28 ((Nd.nd x + n1 / 32 + 1)) (z * 2 ^ n2) xq30 ((Nd.nd z + n2 / 32 + 1)) wc (Nd.Nb.of (hw.rdOf (i := 1) rfl 0) Nd.up_lt) (by omega) (Nd.Nb.of (hw.rdOf (i := 0) rfl 0) Nd.up_lt) (by omega) (Nat.le_of_lt hcs))) (fun _ => (ulS (ulC (ulC (ulC (ulC (ulC ulN))))))) (fun xq39 hq40 => ?_)
  refine GH.take 6 (v := (.agg #[(.int .i64 2), (.bool g1), (.slice (some ⟨xq39, 0, none⟩) ((Nd.nd ((x * 2 ^ n1) - (z * 2 ^ n2)))) ((Nd.nd ((x * 2 ^ n1))))), (.int .i64 e), (.bool false)])) rfl (by kernel_rfl) (by kernel_rfl) (by kernel_rfl) (fun _ _ _ h => h) (Ex.build (vs := [(0, (.int .i64 2)), (1, (.bool g1)), (2, (.slice (some ⟨xq39, 0, none⟩) ((Nd.nd ((x * 2 ^ n1) - (z * 2 ^ n2)))) ((Nd.nd ((x * 2 ^ n1)))))), (3, (.int .i64 e))]) rfl (by first | rfl | kernel_rfl)) (ulS (ulC (ulC (ulC (ulC (ulC ulN)))))) (by decide) ?_
  refine GH.done (by kernel_rfl) ?_
  refine GE.thenN ?_
  refine GE.tail rfl (Stp.st3 (cs' := [(.int .i64 2), (.bool g1), (.slice (some ⟨xq39, 0, none⟩) ((Nd.nd ((x * 2 ^ n1) - (z * 2 ^ n2)))) ((Nd.nd ((x * 2 ^ n1))))), (.int .i64 e), (.bool false)]) rfl rfl rfl T.sz38 rfl rfl rfl) (fun _ _ => ?_)
  refine GE.thenN ?_
  refine GC.ret ?_
  refine GE.thenR ?_
  refine GC.ret1 rfl (Rv.cellA rfl T.ag38 T.sz38 (L := _) (i := 3) rfl (vs := [(.int .i64 2), (.bool g1), (.slice (some ⟨xq39, 0, none⟩) ((Nd.nd ((x * 2 ^ n1) - (z * 2 ^ n2)))) ((Nd.nd ((x * 2 ^ n1))))), (.int .i64 e), (.bool false)]) rfl rfl) (fun wN HN => ?_)
  exact HN.ret (xq39, (Nd.nd ((x * 2 ^ n1)))) (Nd.nd_mono (Nat.sub_le _ _)) rfl (ulC (ulS (ulS (ulS (ulS (ulS ulN)))))) rfl

set_option maxRecDepth 100000 in
set_option maxHeartbeats 1000000 in
theorem pnum_lt (x bx cx z bz cz : Nat) (e e1 e2 : Int) (n1 n2 : Nat) (g1 g2 : Bool) (w : World) (hrx : Nd.Nb w bx x) (hnx : Nd.nd x ≤ 50) (hrz : Nd.Nb w bz z) (hnz : Nd.nd z ≤ 50) (he1 : e1 = e + ((n1 : Nat) : Int)) (he2 : e2 = e + ((n2 : Nat) : Int)) (hn12 : n1 = 0 ∨ n2 = 0) (hn1 : n1 ≤ 3000) (hn2 : n2 ≤ 3000) (heb : -100000 ≤ e ∧ e ≤ 100000) (hg : g1 ≠ g2) (hcs : x * 2 ^ n1 < z * 2 ^ n2) :
  Calls Try.prog 33 #[(.agg #[(.int .i64 2), (.bool g1), (.slice (some ⟨bx, 0, none⟩) ((Nd.nd x)) cx), (.int .i64 e1), (.bool false)]), (.agg #[(.int .i64 2), (.bool g2), (.slice (some ⟨bz, 0, none⟩) ((Nd.nd z)) cz), (.int .i64 e2), (.bool false)])] w (Ret w (fun z' : Nat × Nat => Nd.nd ((z * 2 ^ n2) - (x * 2 ^ n1)) ≤ z'.2) (fun z' => (.agg #[(.int .i64 2), (.bool g2), (.slice (some ⟨z'.1, 0, none⟩) ((Nd.nd ((z * 2 ^ n2) - (x * 2 ^ n1)))) z'.2), (.int .i64 e), (.bool false)])) (fun z' => [⟨z'.1, (Nd.dl z'.2 ((z * 2 ^ n2) - (x * 2 ^ n1))).map u32, 23, true⟩])) := by
 have hXn : Nd.nd (x * 2 ^ n1) ≤ Nd.nd x + n1 / 32 + 1 := Nd.nd_le Nd.up_lt
 have hZn : Nd.nd (z * 2 ^ n2) ≤ Nd.nd z + n2 / 32 + 1 := Nd.nd_le Nd.up_lt
 have hzp : z ≠ 0 := fun q => by rw [q, Nat.zero_mul] at hcs; exact Nat.not_lt_zero _ hcs
 refine enter (M := None) (L := []) (n := 97) (l := [(0, (.agg #[(.int .i64 2), (.bool g1), (.slice (some ⟨bx, 0, none⟩) ((Nd.nd x)) cx), (.int .i64 e1), (.bool false)])), (1, (.agg #[(.int .i64 2), (.bool g2), (.slice (some ⟨bz, 0, none⟩) ((Nd.nd z)) cz), (.int .i64 e2), (.bool false)]))]) Try.func33 rfl rfl (Args.cons rfl (Args.cons rfl (Args.nil _))) (Hp.start _ _) ?_
 refine GC.seq ?_
 refine GC.region ?_
 refine GL.step (Stp.box (cs := [(.int .i64 2), (.bool g1), (.slice (some ⟨bx, 0, none⟩) ((Nd.nd x)) cx), (.int .i64 e1), (.bool false)]) rfl rfl (by decide)) (fun bq1 _ => ?_)
 refine GL.step (Stp.box (cs := [(.int .i64 2), (.bool g2), (.slice (some ⟨bz, 0, none⟩) ((Nd.nd z)) cz), (.int .i64 e2), (.bool false)]) rfl rfl (by decide)) (fun bq2 _ => ?_)
 refine GL.step (Stp.alloc T.zr38 (by decide)) (fun bq3 _ => ?_)
 refine GL.nil ?_
 refine GE.thenN ?_
 refine GC.seq ?_
 refine GC.seq ?_
 refine GC.region ?_
 refine GL.val (v := (.pointer (some ⟨bq1, 0, none⟩))) (Ex.cast (Ex.fieldAddr rfl Try.underlying38 rfl T.sz3 (by decide)) rfl) (by decide) ?_
 refine GL.val (Ex.load rfl T.ag3 (i := 2) rfl rfl) (by decide) ?_
 refine GL.val (v := (.bool false)) (Ex.cast (Ex.eql rfl rfl) rfl) (by decide) ?_
 refine GL.val (Ex.move rfl) (by decide) ?_
 refine GL.stepG (tj := 12) rfl rfl (Ex.wp (v := (.pointer (some ⟨bq2, 0, none⟩))) (Ex.cast (Ex.fieldAddr rfl Try.underlying38 rfl T.sz3 (by decide)) rfl) (by decide)) (fun _ _ => ?_)
 refine GL.stepG (tj := 12) rfl rfl (Ex.wp (v := (.int .i64 2)) (Ex.load rfl T.ag3 (i := 1) rfl rfl) (by decide)) (fun _ _ => ?_)
 refine GL.stepG (tj := 12) rfl rfl (Ex.wp (v := (.bool false)) (Ex.cast (Ex.eql rfl rfl) rfl) (by decide)) (fun _ _ => ?_)
 refine GL.val (v := (.bool false)) (Ex.pickF rfl rfl) (by decide) ?_
 refine GL.val (Ex.move rfl) (by decide) ?_
 refine GL.stepG (tj := 17) rfl rfl (Ex.wp (v := (.pointer (some ⟨bq1, 0, none⟩))) (Ex.cast (Ex.fieldAddr rfl Try.underlying38 rfl T.sz3 (by decide)) rfl) (by decide)) (fun _ _ => ?_)
 refine GL.stepG (tj := 17) rfl rfl (Ex.wp (v := (.int .i64 2)) (Ex.load rfl T.ag3 (i := 2) rfl rfl) (by decide)) (fun _ _ => ?_)
 refine GL.stepG (tj := 17) rfl rfl (Ex.wp (v := (.bool false)) (Ex.cast (Ex.eql rfl rfl) rfl) (by decide)) (fun _ _ => ?_)
 refine GL.stepG (tj := 17) rfl rfl (Ex.wp (v := (.bool false)) (Ex.move rfl) (by decide)) (fun _ _ => ?_)
 refine GL.skipG (tj := 21) rfl rfl rfl (by decide) ?_
 refine GL.skipG (tj := 21) rfl rfl rfl (by decide) ?_
 refine GL.skipG (tj := 21) rfl rfl rfl (by decide) ?_
 refine GL.stepG (tj := 17) rfl rfl (Ex.wp (v := (.bool false)) (Ex.pickF rfl rfl) (by decide)) (fun _ _ => ?_)
 refine GL.stepG (tj := 17) rfl rfl (Ex.wp (v := (.bool false)) (Ex.move rfl) (by decide)) (fun _ _ => ?_)
 refine GL.skipG (tj := 26) rfl rfl rfl (by decide) ?_
 refine GL.skipG (tj := 26) rfl rfl rfl (by decide) ?_
 refine GL.skipG (tj := 26) rfl rfl rfl (by decide) ?_
 refine GL.skipG (tj := 26) rfl rfl rfl (by decide) ?_
 refine GL.skipG (tj := 26) rfl rfl rfl (by decide) ?_
 refine GL.stepG (tj := 17) rfl rfl (Ex.wp (v := (.bool false)) (Ex.pickF rfl rfl) (by decide)) (fun _ _ => ?_)
 refine GL.val (v := (.bool false)) (Ex.pickF rfl rfl) (by decide) ?_
 refine GL.nil ?_
 refine GE.thenN ?_
 refine GC.cond rfl (fun hq4 => by cases hq4) (fun _ => ?_)
 refine GC.skip ?_
 refine GE.thenN ?_
 refine GC.seq ?_
 refine GC.seq ?_
 refine GC.region ?_
 refine GL.val (v := (.pointer (some ⟨bq1, 0, none⟩))) (Ex.cast (Ex.fieldAddr rfl Try.underlying38 rfl T.sz3 (by decide)) rfl) (by decide) ?_
 refine GL.val (Ex.load rfl T.ag3 (i := 2) rfl rfl) (by decide) ?_
 refine GL.val (v := (.bool false)) (Ex.cast (Ex.eql rfl rfl) rfl) (by decide) ?_
 refine GL.nil ?_
 refine GE.thenN ?_
 refine GC.cond rfl (fun hq5 => by cases hq5) (fun _ => ?_)
 refine GC.skip ?_
 refine GE.thenN ?_
 refine GC.seq ?_
 refine GC.seq ?_
 refine GC.region ?_
 refine GL.val (v := (.pointer (some ⟨bq2, 0, none⟩))) (Ex.cast (Ex.fieldAddr rfl Try.underlying38 rfl T.sz3 (by decide)) rfl) (by decide) ?_
 refine GL.val (Ex.load rfl T.ag3 (i := 1) rfl rfl) (by decide) ?_
 refine GL.val (v := (.bool false)) (Ex.cast (Ex.eql rfl rfl) rfl) (by decide) ?_
 refine GL.nil ?_
 refine GE.thenN ?_
 refine GC.cond rfl (fun hq6 => by cases hq6) (fun _ => ?_)
 refine GC.skip ?_
 refine GE.thenN ?_
 refine GC.seq ?_
 refine GC.region ?_
 refine GL.val (v := (.pointer (some ⟨bq1, 3, none⟩))) (Ex.cast (Ex.fieldAddr rfl Try.underlying38 rfl T.sz3 (by decide)) rfl) (by decide) ?_
 refine GL.val (Ex.load rfl T.ag3 (i := 2) rfl rfl) (by decide) ?_
 refine GL.val (v := (.pointer (some ⟨bq2, 3, none⟩))) (Ex.cast (Ex.fieldAddr rfl Try.underlying38 rfl T.sz3 (by decide)) rfl) (by decide) ?_
 refine GL.val (Ex.load rfl T.ag3 (i := 1) rfl rfl) (by decide) ?_
 refine GL.val (v := (.int .i64 e)) (Ex.minI rfl rfl (Z := e) (by split <;> omega)) (by decide) ?_
 refine GL.val (Ex.assign rfl) (by decide) ?_
 refine GL.nil ?_
 refine GE.thenN ?_
 refine GC.seq ?_
 by_cases hx0 : x = 0
 ·refine GC.drawP [⟨bq3, [(.int .i64 0), (.bool false), (.slice none 0 0), (.int .i64 0), (.bool false)], 38, true⟩, ⟨bq2, [(.int .i64 2), (.bool g2), (.slice (some ⟨bz, 0, none⟩) ((Nd.nd z)) cz), (.int .i64 e2), (.bool false)], 38, true⟩, ⟨bq1, [(.int .i64 2), (.bool g1), (.slice (some ⟨bx, 0, none⟩) ((Nd.nd x)) cx), (.int .i64 e1), (.bool false)], 38, true⟩] T.mixed (by kernel_rfl) (by kernel_rfl) (fuel := 15) rfl rfl ?_
  refine GH.take 0 (v := (.pointer (some ⟨bq1, 2, none⟩))) rfl (by kernel_rfl) (by kernel_rfl) (by kernel_rfl) (fun _ _ _ h => h) (Ex.cast (Ex.fieldAddr rfl Try.underlying38 rfl T.sz36 (by decide)) rfl) (ulC (ulC (ulC ulN))) (by decide) ?_
  refine GH.take 1 (v := (.slice (some ⟨bx, 0, none⟩) ((Nd.nd x)) cx)) rfl (by kernel_rfl) (by kernel_rfl) (by kernel_rfl) (fun _ _ _ h => h) (Ex.load rfl T.ag36 (i := 2) rfl rfl) (ulC (ulC (ulC ulN))) (by decide) ?_
  refine GH.take 2 (v := (.pointer (some ⟨bq1, 3, none⟩))) rfl (by kernel_rfl) (by kernel_rfl) (by kernel_rfl) (fun _ _ _ h => h) (Ex.cast (Ex.fieldAddr rfl Try.underlying38 rfl T.sz3 (by decide)) rfl) (ulC (ulC (ulC ulN))) (by decide) ?_
  refine GH.take 3 (v := (.int .i64 e1)) rfl (by kernel_rfl) (by kernel_rfl) (by kernel_rfl) (fun _ _ _ h => h) (Ex.load rfl T.ag3 (i := 2) rfl rfl) (ulC (ulC (ulC ulN))) (by decide) ?_
  refine GH.take 4 (v := (.int .i64 e)) rfl (by kernel_rfl) (by kernel_rfl) (by kernel_rfl) (fun _ _ _ h => h) (Ex.move rfl) (ulC (ulC (ulC ulN))) (by decide) ?_
  refine GH.take 5 (v := (.int .i64 (((n1 : Nat) : Int)))) rfl (by kernel_rfl) (by kernel_rfl) (by kernel_rfl) (fun _ _ _ h => h) (Ex.sub' rfl rfl (Z := ((n1 : Nat) : Int)) (by rw [w64 (by omega)]; omega)) (ulC (ulC (ulC ulN))) (by decide) ?_
  refine GH.take 7 (v := (.pointer (some ⟨bq2, 2, none⟩))) rfl (by kernel_rfl) (by kernel_rfl) (by kernel_rfl) (fun _ _ _ h => h) (Ex.cast (Ex.fieldAddr rfl Try.underlying38 rfl T.sz36 (by decide)) rfl) (ulC (ulC (ulC ulN))) (by decide) ?_
  refine GH.take 8 (v := (.slice (some ⟨bz, 0, none⟩) ((Nd.nd z)) cz)) rfl (by kernel_rfl) (by kernel_rfl) (by kernel_rfl) (fun _ _ _ h => h) (Ex.load rfl T.ag36 (i := 1) rfl rfl) (ulC (ulC (ulC ulN))) (by decide) ?_
  refine GH.take 9 (v := (.pointer (some ⟨bq2, 3, none⟩))) rfl (by kernel_rfl) (by kernel_rfl) (by kernel_rfl) (fun _ _ _ h => h) (Ex.cast (Ex.fieldAddr rfl Try.underlying38 rfl T.sz3 (by decide)) rfl) (ulC (ulC (ulC ulN))) (by decide) ?_
  refine GH.take 10 (v := (.int .i64 e2)) rfl (by kernel_rfl) (by kernel_rfl) (by kernel_rfl) (fun _ _ _ h => h) (Ex.load rfl T.ag3 (i := 1) rfl rfl) (ulC (ulC (ulC ulN))) (by decide) ?_
  refine GH.take 11 (v := (.int .i64 e)) rfl (by kernel_rfl) (by kernel_rfl) (by kernel_rfl) (fun _ _ _ h => h) (Ex.move rfl) (ulC (ulC (ulC ulN))) (by decide) ?_
  refine GH.take 12 (v := (.int .i64 (((n2 : Nat) : Int)))) rfl (by kernel_rfl) (by kernel_rfl) (by kernel_rfl) (fun _ _ _ h => h) (Ex.sub' rfl rfl (Z := ((n2 : Nat) : Int)) (by rw [w64 (by omega)]; omega)) (ulC (ulC (ulC ulN))) (by decide) ?_
  refine GH.one 6 rfl (by kernel_rfl) (Stp.callR (vs := [(.slice (some ⟨bx, 0, none⟩) ((Nd.nd x)) cx), (.int .i64 (((n1 : Nat) : Int)))]) rfl rfl T.own61 (by decide) (fun wc hw => up_z x bx cx n1 wc (by rw [hx0]; rfl))) (fun _ => (ulC (ulC (ulC ulN)))) (fun xq11 hq12 => ?_)
  refine GH.one 13 rfl (by kernel_rfl) (Stp.callR (vs := [(.slice (some ⟨bz, 0, none⟩) ((Nd.nd z)) cz), (.int .i64 (((n2 : Nat) : Int)))]) rfl rfl T.own61 (by decide) (fun wc hw => up_b z bz cz n2 (Nd.nd z + n2 / 32 + 1) wc (hw.rd hrz (fun x => x)) (by omega) (by omega) (by omega) rfl)) (fun _ => (ulS (ulC (ulC (ulC ulN))))) (fun xq13 hq14 => ?_)
  refine GH.take 14 (v := (.slice none 0 0)) rfl (by kernel_rfl) (by kernel_rfl) (by kernel_rfl) (fun _ _ _ h => h) (Ex.assign rfl) (ulS (ulC (ulC (ulC ulN)))) (by decide) ?_
  refine GH.done (by kernel_rfl) ?_
  refine GE.thenN ?_
  refine GE.tail rfl (Ex.wp (v := (.slice (some ⟨xq13, 0, none⟩) ((Nd.nd (z * 2 ^ n2))) ((Nd.nd z + n2 / 32 + 1)))) (Ex.assign rfl) (by decide)) (fun _ _ => ?_)
  refine GE.thenN ?_
  refine GC.seq ?_
  refine GC.seq ?_
  refine GC.region ?_
  refine GL.val (v := (.pointer (some ⟨bq1, 1, none⟩))) (Ex.cast (Ex.fieldAddr rfl Try.underlying38 rfl T.sz4 (by decide)) rfl) (by decide) ?_
  refine GL.val (Ex.load rfl T.ag4 (i := 3) rfl rfl) (by decide) ?_
  refine GL.val (v := (.pointer (some ⟨bq2, 1, none⟩))) (Ex.cast (Ex.fieldAddr rfl Try.underlying38 rfl T.sz4 (by decide)) rfl) (by decide) ?_
  refine GL.val (Ex.load rfl T.ag4 (i := 2) rfl rfl) (by decide) ?_
  refine GL.val (v := (.bool (g1 == g2))) (Ex.eqlB rfl rfl Try.underlying4) (by decide) ?_
  refine GL.nil ?_
  refine GE.thenN ?_
  refine GC.cond rfl (fun hq15 => by exfalso; exact hg (by simpa using hq15)) (fun _ => ?_)
  refine GC.skip ?_
  refine GE.thenN ?_
  refine GC.seq ?_
  refine GC.region ?_
  refine GL.val (Ex.move rfl) (by decide) ?_
  refine GL.val (Ex.move rfl) (by decide) ?_
  refine GL.step (Stp.callR (σ := Unit) (p := fun rz => True) (v := fun rz => (.int .i64 ((-1)))) (N := fun rz => []) (vs := [(.slice none 0 0), (.slice (some ⟨xq13, 0, none⟩) ((Nd.nd (z * 2 ^ n2))) ((Nd.nd z + n2 / 32 + 1)))]) rfl rfl T.own60 (by decide) (fun wc hw => (by have h := cmpV_nb (x * 2 ^ n1) none 0 (z * 2 ^ n2) xq13 ((Nd.nd z + n2 / 32 + 1)) wc (by rw [hx0, Nat.zero_mul]) (Nd.Nb.of (hw.rdOf (i := 0) rfl 0) Nd.up_lt) (by omega); rw [← Nd.cmp_lt hcs] at h; exact h))) (fun xq16 hq17 => ?_)
  refine GL.val (Ex.assign rfl) (by decide) ?_
  refine GL.nil ?_
  refine GE.thenN ?_
  refine GC.seq ?_
  refine GC.seq ?_
  refine GC.region ?_
  refine GL.val (Ex.move rfl) (by decide) ?_
  refine GL.val (v := (.bool false)) (Ex.cast (Ex.eql rfl rfl) rfl) (by decide) ?_
  refine GL.nil ?_
  refine GE.thenN ?_
  refine GC.cond rfl (fun hq18 => by cases hq18) (fun _ => ?_)
  refine GC.skip ?_
  refine GE.thenN ?_
  refine GC.seq ?_
  refine GC.seq ?_
  refine GC.region ?_
  refine GL.val (Ex.move rfl) (by decide) ?_
  refine GL.val (v := (.bool false)) (Ex.cast (Ex.gtr rfl rfl) rfl) (by decide) ?_
  refine GL.nil ?_
  refine GE.thenN ?_
  refine GC.cond rfl (fun hq19 => by cases hq19) (fun _ => ?_)
  refine GC.skip ?_
  refine GE.thenN ?_
  refine GC.seq ?_
  refine GC.drawP [⟨xq13, (Nd.dl ((Nd.nd z + n2 / 32 + 1)) (z * 2 ^ n2)).map u32, 23, true⟩, ⟨bq3, [(.int .i64 0), (.bool false), (.slice none 0 0), (.int .i64 0), (.bool false)], 38, true⟩, ⟨bq2, [(.int .i64 2), (.bool g2), (.slice (some ⟨bz, 0, none⟩) ((Nd.nd z)) cz), (.int .i64 e2), (.bool false)], 38, true⟩, ⟨bq1, [(.int .i64 2), (.bool g1), (.slice (some ⟨bx, 0, none⟩) ((Nd.nd x)) cx), (.int .i64 e1), (.bool false)], 38, true⟩] T.mixed (by kernel_rfl) (by kernel_rfl) (fuel := 7) rfl rfl ?_
  refine GH.take 0 (v := (.pointer (some ⟨bq2, 1, none⟩))) rfl (by kernel_rfl) (by kernel_rfl) (by kernel_rfl) (fun _ _ _ h => h) (Ex.cast (Ex.fieldAddr rfl Try.underlying38 rfl T.sz4 (by decide)) rfl) (ulC (ulC (ulC (ulC ulN)))) (by decide) ?_
  refine GH.take 1 (v := (.bool g2)) rfl (by kernel_rfl) (by kernel_rfl) (by kernel_rfl) (fun _ _ _ h => h) (Ex.load rfl T.ag4 (i := 2) rfl rfl) (ulC (ulC (ulC (ulC ulN)))) (by decide) ?_
  refine GH.take 2 (v := (.slice (some ⟨xq13, 0, none⟩) ((Nd.nd (z * 2 ^ n2))) ((Nd.nd z + n2 / 32 + 1)))) rfl (by kernel_rfl) (by kernel_rfl) (by kernel_rfl) (fun _ _ _ h => h) (Ex.move rfl) (ulC (ulC (ulC (ulC ulN)))) (by decide) ?_
  refine GH.take 3 (v := (.slice none 0 0)) rfl (by kernel_rfl) (by kernel_rfl) (by kernel_rfl) (fun _ _ _ h => h) (Ex.move rfl) (ulC (ulC (ulC (ulC ulN)))) (by decide) ?_
  refine GH.take 5 (v := (.int .i64 e)) rfl (by kernel_rfl) (by kernel_rfl) (by kernel_rfl) (fun _ _ _ h => h) (Ex.move rfl) (ulC (ulC (ulC (ulC ulN)))) (by decide) ?_
  refine GH.one 4 rfl (by kernel_rfl) (Stp.callR (vs := [(.slice (some ⟨xq13, 0, none⟩) ((Nd.nd (z * 2 ^ n2))) ((Nd.nd z + n2 / 32 + 1))), (.slice none 0 0)]) rfl rfl T.own65 (by decide) (fun wc hw => minusV_bn (z * 2 ^ n2) xq13 ((Nd.nd z + n2 / 32 + 1)) (x * 2 ^ n1) none 0 wc (Nd.Nb.of (hw.rdOf (i := 0) rfl 0) Nd.up_lt) (by omega) (by rw [hx0, Nat.zero_mul]) (Nat.le_of_lt hcs))) (fun _ => (ulS (ulC (ulC (ulC (ulC ulN)))))) (fun xq22 hq23 => ?_)
  refine GH.take 6 (v := (.agg #[(.int .i64 2), (.bool g2), (.slice (some ⟨xq22, 0, none⟩) ((Nd.nd ((z * 2 ^ n2) - (x * 2 ^ n1)))) ((Nd.nd ((z * 2 ^ n2))))), (.int .i64 e), (.bool false)])) rfl (by kernel_rfl) (by kernel_rfl) (by kernel_rfl) (fun _ _ _ h => h) (Ex.build (vs := [(0, (.int .i64 2)), (1, (.bool g2)), (2, (.slice (some ⟨xq22, 0, none⟩) ((Nd.nd ((z * 2 ^ n2) - (x * 2 ^ n1)))) ((Nd.nd ((z * 2 ^ n2)))))), (3, (.int .i64 e))]) rfl (by first | rfl | kernel_rfl)) (ulS (ulC (ulC (ulC (ulC ulN))))) (by decide) ?_
  refine GH.done (by kernel_rfl) ?_
  refine GE.thenN ?_
  refine GE.tail rfl (Stp.st2 (cs' := [(.int .i64 2), (.bool g2), (.slice (some ⟨xq22, 0, none⟩) ((Nd.nd ((z * 2 ^ n2) - (x * 2 ^ n1)))) ((Nd.nd ((z * 2 ^ n2))))), (.int .i64 e), (.bool false)]) rfl rfl rfl T.sz38 rfl rfl rfl) (fun _ _ => ?_)
  refine GE.thenN ?_
  refine GC.ret ?_
  refine GC.ret1 rfl (Rv.cellA rfl T.ag38 T.sz38 (L := _) (i := 2) rfl (vs := [(.int .i64 2), (.bool g2), (.slice (some ⟨xq22, 0, none⟩) ((Nd.nd ((z * 2 ^ n2) - (x * 2 ^ n1)))) ((Nd.nd ((z * 2 ^ n2))))), (.int .i64 e), (.bool false)]) rfl rfl) (fun wN HN => ?_)
  exact HN.ret (xq22, (Nd.nd ((z * 2 ^ n2)))) (Nd.nd_mono (Nat.sub_le _ _)) rfl (ulC (ulS (ulS (ulS (ulS ulN))))) rfl
 ·refine GC.drawP [⟨bq3, [(.int .i64 0), (.bool false), (.slice none 0 0), (.int .i64 0), (.bool false)], 38, true⟩, ⟨bq2, [(.int .i64 2), (.bool g2), (.slice (some ⟨bz, 0, none⟩) ((Nd.nd z)) cz), (.int .i64 e2), (.bool false)], 38, true⟩, ⟨bq1, [(.int .i64 2), (.bool g1), (.slice (some ⟨bx, 0, none⟩) ((Nd.nd x)) cx), (.int .i64 e1), (.bool false)], 38, true⟩] T.mixed (by kernel_rfl) (by kernel_rfl) (fuel := 15) rfl rfl ?_
  refine GH.take 0 (v := (.pointer (some ⟨bq1, 2, none⟩))) rfl (by kernel_rfl) (by kernel_rfl) (by kernel_rfl) (fun _ _ _ h => h) (Ex.cast (Ex.fieldAddr rfl Try.underlying38 rfl T.sz36 (by decide)) rfl) (ulC (ulC (ulC ulN))) (by decide) ?_
  refine GH.take 1 (v := (.slice (some ⟨bx, 0, none⟩) ((Nd.nd x)) cx)) rfl (by kernel_rfl) (by kernel_rfl) (by kernel_rfl) (fun _ _ _ h => h) (Ex.load rfl T.ag36 (i := 2) rfl rfl) (ulC (ulC (ulC ulN))) (by decide) ?_
  refine GH.take 2 (v := (.pointer (some ⟨bq1, 3, none⟩))) rfl (by kernel_rfl) (by kernel_rfl) (by kernel_rfl) (fun _ _ _ h => h) (Ex.cast (Ex.fieldAddr rfl Try.underlying38 rfl T.sz3 (by decide)) rfl) (ulC (ulC (ulC ulN))) (by decide) ?_
  refine GH.take 3 (v := (.int .i64 e1)) rfl (by kernel_rfl) (by kernel_rfl) (by kernel_rfl) (fun _ _ _ h => h) (Ex.load rfl T.ag3 (i := 2) rfl rfl) (ulC (ulC (ulC ulN))) (by decide) ?_
  refine GH.take 4 (v := (.int .i64 e)) rfl (by kernel_rfl) (by kernel_rfl) (by kernel_rfl) (fun _ _ _ h => h) (Ex.move rfl) (ulC (ulC (ulC ulN))) (by decide) ?_
  refine GH.take 5 (v := (.int .i64 (((n1 : Nat) : Int)))) rfl (by kernel_rfl) (by kernel_rfl) (by kernel_rfl) (fun _ _ _ h => h) (Ex.sub' rfl rfl (Z := ((n1 : Nat) : Int)) (by rw [w64 (by omega)]; omega)) (ulC (ulC (ulC ulN))) (by decide) ?_
  refine GH.take 7 (v := (.pointer (some ⟨bq2, 2, none⟩))) rfl (by kernel_rfl) (by kernel_rfl) (by kernel_rfl) (fun _ _ _ h => h) (Ex.cast (Ex.fieldAddr rfl Try.underlying38 rfl T.sz36 (by decide)) rfl) (ulC (ulC (ulC ulN))) (by decide) ?_
  refine GH.take 8 (v := (.slice (some ⟨bz, 0, none⟩) ((Nd.nd z)) cz)) rfl (by kernel_rfl) (by kernel_rfl) (by kernel_rfl) (fun _ _ _ h => h) (Ex.load rfl T.ag36 (i := 1) rfl rfl) (ulC (ulC (ulC ulN))) (by decide) ?_
  refine GH.take 9 (v := (.pointer (some ⟨bq2, 3, none⟩))) rfl (by kernel_rfl) (by kernel_rfl) (by kernel_rfl) (fun _ _ _ h => h) (Ex.cast (Ex.fieldAddr rfl Try.underlying38 rfl T.sz3 (by decide)) rfl) (ulC (ulC (ulC ulN))) (by decide) ?_
  refine GH.take 10 (v := (.int .i64 e2)) rfl (by kernel_rfl) (by kernel_rfl) (by kernel_rfl) (fun _ _ _ h => h) (Ex.load rfl T.ag3 (i := 1) rfl rfl) (ulC (ulC (ulC ulN))) (by decide) ?_
  refine GH.take 11 (v := (.int .i64 e)) rfl (by kernel_rfl) (by kernel_rfl) (by kernel_rfl) (fun _ _ _ h => h) (Ex.move rfl) (ulC (ulC (ulC ulN))) (by decide) ?_
  refine GH.take 12 (v := (.int .i64 (((n2 : Nat) : Int)))) rfl (by kernel_rfl) (by kernel_rfl) (by kernel_rfl) (fun _ _ _ h => h) (Ex.sub' rfl rfl (Z := ((n2 : Nat) : Int)) (by rw [w64 (by omega)]; omega)) (ulC (ulC (ulC ulN))) (by decide) ?_
  refine GH.one 6 rfl (by kernel_rfl) (Stp.callR (vs := [(.slice (some ⟨bx, 0, none⟩) ((Nd.nd x)) cx), (.int .i64 (((n1 : Nat) : Int)))]) rfl rfl T.own61 (by decide) (fun wc hw => up_b x bx cx n1 (Nd.nd x + n1 / 32 + 1) wc (hw.rd hrx (fun x => x)) (by omega) (by omega) (by omega) rfl)) (fun _ => (ulS (ulC (ulC (ulC ulN))))) (fun xq28 hq29 => ?_)
  refine GH.one 13 rfl (by kernel_rfl) (Stp.callR (vs := [(.slice (some ⟨bz, 0, none⟩) ((Nd.nd z)) cz), (.int .i64 (((n2 : Nat) : Int)))]) rfl rfl T.own61 (by decide) (fun wc hw => up_b z bz cz n2 (Nd.nd z + n2 / 32 + 1) wc (hw.rd hrz (fun x => x)) (by omega) (by omega) (by omega) rfl)) (fun _ => (ulS (ulS (ulC (ulC (ulC ulN)))))) (fun xq30 hq31 => ?_)
  refine GH.take 14 (v := (.slice (some ⟨xq28, 0, none⟩) ((Nd.nd (x * 2 ^ n1))) ((Nd.nd x + n1 / 32 + 1)))) rfl (by kernel_rfl) (by kernel_rfl) (by kernel_rfl) (fun _ _ _ h => h) (Ex.assign rfl) (ulS (ulS (ulC (ulC (ulC ulN))))) (by decide) ?_
  refine GH.done (by kernel_rfl) ?_
  refine GE.thenN ?_
  refine GE.tail rfl (Ex.wp (v := (.slice (some ⟨xq30, 0, none⟩) ((Nd.nd (z * 2 ^ n2))) ((Nd.nd z + n2 / 32 + 1)))) (Ex.assign rfl) (by decide)) (fun _ _ => ?_)
  refine GE.thenN ?_
  refine GC.seq ?_
  refine GC.seq ?_
  refine GC.region ?_
  refine GL.val (v := (.pointer (some ⟨bq1, 1, none⟩))) (Ex.cast (Ex.fieldAddr rfl Try.underlying38 rfl T.sz4 (by decide)) rfl) (by decide) ?_
  refine GL.val (Ex.load rfl T.ag4 (i := 4) rfl rfl) (by decide) ?_
  refine GL.val (v := (.pointer (some ⟨bq2, 1, none⟩))) (Ex.cast (Ex.fieldAddr rfl Try.underlying38 rfl T.sz4 (by decide)) rfl) (by decide) ?_
  refine GL.val (Ex.load rfl T.ag4 (i := 3) rfl rfl) (by decide) ?_
  refine GL.val (v := (.bool (g1 == g2))) (Ex.eqlB rfl rfl Try.underlying4) (by decide) ?_
  refine GL.nil ?_
  refine GE.thenN ?_
  refine GC.cond rfl (fun hq32 => by exfalso; exact hg (by simpa using hq32)) (fun _ => ?_)
  refine GC.skip ?_
  refine GE.thenN ?_
  refine GC.seq ?_
  refine GC.region ?_
  refine GL.val (Ex.move rfl) (by decide) ?_
  refine GL.val (Ex.move rfl) (by decide) ?_
  refine GL.step (Stp.callR (σ := Unit) (p := fun rz => True) (v := fun rz => (.int .i64 ((-1)))) (N := fun rz => []) (vs := [(.slice (some ⟨xq28, 0, none⟩) ((Nd.nd (x * 2 ^ n1))) ((Nd.nd x + n1 / 32 + 1))), (.slice (some ⟨xq30, 0, none⟩) ((Nd.nd (z * 2 ^ n2))) ((Nd.nd z + n2 / 32 + 1)))]) rfl rfl T.own60 (by decide) (fun wc hw => (by have h := cmpV_bb (x * 2 ^ n1) xq28 ((Nd.nd x + n1 / 32 + 1)) (z * 2 ^ n2) xq30 ((Nd.nd z + n2 / 32 + 1)) wc (Nd.Nb.of (hw.rdOf (i := 1) rfl 0) Nd.up_lt) (by omega) (Nd.Nb.of (hw.rdOf (i := 0) rfl 0) Nd.up_lt) (by omega); rw [← Nd.cmp_lt hcs] at h; exact h))) (fun xq33 hq34 => ?_)
  refine GL.val (Ex.assign rfl) (by decide) ?_
  refine GL.nil ?_
  refine GE.thenN ?_
  refine GC.seq ?_
  refine GC.seq ?_
  refine GC.region ?_
  refine GL.val (Ex.move rfl) (by decide) ?_
  refine GL.val (v := (.bool false)) (Ex.cast (Ex.eql rfl rfl) rfl) (by decide) ?_
  refine GL.nil ?_
  refine GE.thenN ?_
  refine GC.cond rfl (fun hq35 => by cases hq35) (fun _ => ?_)
  refine GC.skip ?_
  refine GE.thenN ?_
  refine GC.seq ?_
  refine GC.seq ?_
  refine GC.region ?_
  refine GL.val (Ex.move rfl) (by decide) ?_
  refine GL.val (v := (.bool false)) (Ex.cast (Ex.gtr rfl rfl) rfl) (by decide) ?_
  refine GL.nil ?_
  refine GE.thenN ?_
  refine GC.cond rfl (fun hq36 => by cases hq36) (fun _ => ?_)
  refine GC.skip ?_
  refine GE.thenN ?_
  refine GC.seq ?_
  refine GC.drawP [⟨xq30, (Nd.dl ((Nd.nd z + n2 / 32 + 1)) (z * 2 ^ n2)).map u32, 23, true⟩, ⟨xq28, (Nd.dl ((Nd.nd x + n1 / 32 + 1)) (x * 2 ^ n1)).map u32, 23, true⟩, ⟨bq3, [(.int .i64 0), (.bool false), (.slice none 0 0), (.int .i64 0), (.bool false)], 38, true⟩, ⟨bq2, [(.int .i64 2), (.bool g2), (.slice (some ⟨bz, 0, none⟩) ((Nd.nd z)) cz), (.int .i64 e2), (.bool false)], 38, true⟩, ⟨bq1, [(.int .i64 2), (.bool g1), (.slice (some ⟨bx, 0, none⟩) ((Nd.nd x)) cx), (.int .i64 e1), (.bool false)], 38, true⟩] T.mixed (by kernel_rfl) (by kernel_rfl) (fuel := 7) rfl rfl ?_
  refine GH.take 0 (v := (.pointer (some ⟨bq2, 1, none⟩))) rfl (by kernel_rfl) (by kernel_rfl) (by kernel_rfl) (fun _ _ _ h => h) (Ex.cast (Ex.fieldAddr rfl Try.underlying38 rfl T.sz4 (by decide)) rfl) (ulC (ulC (ulC (ulC (ulC ulN))))) (by decide) ?_
  refine GH.take 1 (v := (.bool g2)) rfl (by kernel_rfl) (by kernel_rfl) (by kernel_rfl) (fun _ _ _ h => h) (Ex.load rfl T.ag4 (i := 3) rfl rfl) (ulC (ulC (ulC (ulC (ulC ulN))))) (by decide) ?_
  refine GH.take 2 (v := (.slice (some ⟨xq30, 0, none⟩) ((Nd.nd (z * 2 ^ n2))) ((Nd.nd z + n2 / 32 + 1)))) rfl (by kernel_rfl) (by kernel_rfl) (by kernel_rfl) (fun _ _ _ h => h) (Ex.move rfl) (ulC (ulC (ulC (ulC (ulC ulN))))) (by decide) ?_
  refine GH.take 3 (v := (.slice (some ⟨xq28, 0, none⟩) ((Nd.nd (x * 2 ^ n1))) ((Nd.nd x + n1 / 32 + 1)))) rfl (by kernel_rfl) (by kernel_rfl) (by kernel_rfl) (fun _ _ _ h => h) (Ex.move rfl) (ulC (ulC (ulC (ulC (ulC ulN))))) (by decide) ?_
  refine GH.take 5 (v := (.int .i64 e)) rfl (by kernel_rfl) (by kernel_rfl) (by kernel_rfl) (fun _ _ _ h => h) (Ex.move rfl) (ulC (ulC (ulC (ulC (ulC ulN))))) (by decide) ?_
  refine GH.one 4 rfl (by kernel_rfl) (Stp.callR (vs := [(.slice (some ⟨xq30, 0, none⟩) ((Nd.nd (z * 2 ^ n2))) ((Nd.nd z + n2 / 32 + 1))), (.slice (some ⟨xq28, 0, none⟩) ((Nd.nd (x * 2 ^ n1))) ((Nd.nd x + n1 / 32 + 1)))]) rfl rfl T.own65 (by decide) (fun wc hw => minusV_bb (z * 2 ^ n2) xq30 ((Nd.nd z + n2 / 32 + 1)) (x * 2 ^ n1) xq28 ((Nd.nd x + n1 / 32 + 1)) wc (Nd.Nb.of (hw.rdOf (i := 0) rfl 0) Nd.up_lt) (by omega) (Nd.Nb.of (hw.rdOf (i := 1) rfl 0) Nd.up_lt) (by omega) (Nat.le_of_lt hcs))) (fun _ => (ulS (ulC (ulC (ulC (ulC (ulC ulN))))))) (fun xq39 hq40 => ?_)
  refine GH.take 6 (v := (.agg #[(.int .i64 2), (.bool g2), (.slice (some ⟨xq39, 0, none⟩) ((Nd.nd ((z * 2 ^ n2) - (x * 2 ^ n1)))) ((Nd.nd ((z * 2 ^ n2))))), (.int .i64 e), (.bool false)])) rfl (by kernel_rfl) (by kernel_rfl) (by kernel_rfl) (fun _ _ _ h => h) (Ex.build (vs := [(0, (.int .i64 2)), (1, (.bool g2)), (2, (.slice (some ⟨xq39, 0, none⟩) ((Nd.nd ((z * 2 ^ n2) - (x * 2 ^ n1)))) ((Nd.nd ((z * 2 ^ n2)))))), (3, (.int .i64 e))]) rfl (by first | rfl | kernel_rfl)) (ulS (ulC (ulC (ulC (ulC (ulC ulN)))))) (by decide) ?_
  refine GH.done (by kernel_rfl) ?_
  refine GE.thenN ?_
  refine GE.tail rfl (Stp.st3 (cs' := [(.int .i64 2), (.bool g2), (.slice (some ⟨xq39, 0, none⟩) ((Nd.nd ((z * 2 ^ n2) - (x * 2 ^ n1)))) ((Nd.nd ((z * 2 ^ n2))))), (.int .i64 e), (.bool false)]) rfl rfl rfl T.sz38 rfl rfl rfl) (fun _ _ => ?_)
  refine GE.thenN ?_
  refine GC.ret ?_
  refine GC.ret1 rfl (Rv.cellA rfl T.ag38 T.sz38 (L := _) (i := 3) rfl (vs := [(.int .i64 2), (.bool g2), (.slice (some ⟨xq39, 0, none⟩) ((Nd.nd ((z * 2 ^ n2) - (x * 2 ^ n1)))) ((Nd.nd ((z * 2 ^ n2))))), (.int .i64 e), (.bool false)]) rfl rfl) (fun wN HN => ?_)
  exact HN.ret (xq39, (Nd.nd ((z * 2 ^ n2)))) (Nd.nd_mono (Nat.sub_le _ _)) rfl (ulC (ulS (ulS (ulS (ulS (ulS ulN)))))) rfl

set_option maxRecDepth 100000 in
set_option maxHeartbeats 1000000 in
theorem pnum_eq (x bx cx z bz cz : Nat) (e e1 e2 : Int) (n1 n2 : Nat) (g1 g2 : Bool) (w : World) (hrx : Nd.Nb w bx x) (hnx : Nd.nd x ≤ 50) (hrz : Nd.Nb w bz z) (hnz : Nd.nd z ≤ 50) (he1 : e1 = e + ((n1 : Nat) : Int)) (he2 : e2 = e + ((n2 : Nat) : Int)) (hn12 : n1 = 0 ∨ n2 = 0) (hn1 : n1 ≤ 3000) (hn2 : n2 ≤ 3000) (heb : -100000 ≤ e ∧ e ≤ 100000) (hg : g1 ≠ g2) (hcs : x * 2 ^ n1 = z * 2 ^ n2) :
  Calls Try.prog 33 #[(.agg #[(.int .i64 2), (.bool g1), (.slice (some ⟨bx, 0, none⟩) ((Nd.nd x)) cx), (.int .i64 e1), (.bool false)]), (.agg #[(.int .i64 2), (.bool g2), (.slice (some ⟨bz, 0, none⟩) ((Nd.nd z)) cz), (.int .i64 e2), (.bool false)])] w (Ret w (fun _ : Unit => True) (fun _ => (.agg #[(.int .i64 2), (.bool false), (.slice none 0 0), (.int .i64 e), (.bool false)])) (fun _ => [])) := by
 have hXn : Nd.nd (x * 2 ^ n1) ≤ Nd.nd x + n1 / 32 + 1 := Nd.nd_le Nd.up_lt
 have hZn : Nd.nd (z * 2 ^ n2) ≤ Nd.nd z + n2 / 32 + 1 := Nd.nd_le Nd.up_lt
 refine enter (M := None) (L := []) (n := 97) (l := [(0, (.agg #[(.int .i64 2), (.bool g1), (.slice (some ⟨bx, 0, none⟩) ((Nd.nd x)) cx), (.int .i64 e1), (.bool false)])), (1, (.agg #[(.int .i64 2), (.bool g2), (.slice (some ⟨bz, 0, none⟩) ((Nd.nd z)) cz), (.int .i64 e2), (.bool false)]))]) Try.func33 rfl rfl (Args.cons rfl (Args.cons rfl (Args.nil _))) (Hp.start _ _) ?_
 refine GC.seq ?_
 refine GC.region ?_
 refine GL.step (Stp.box (cs := [(.int .i64 2), (.bool g1), (.slice (some ⟨bx, 0, none⟩) ((Nd.nd x)) cx), (.int .i64 e1), (.bool false)]) rfl rfl (by decide)) (fun bq1 _ => ?_)
 refine GL.step (Stp.box (cs := [(.int .i64 2), (.bool g2), (.slice (some ⟨bz, 0, none⟩) ((Nd.nd z)) cz), (.int .i64 e2), (.bool false)]) rfl rfl (by decide)) (fun bq2 _ => ?_)
 refine GL.step (Stp.alloc T.zr38 (by decide)) (fun bq3 _ => ?_)
 refine GL.nil ?_
 refine GE.thenN ?_
 refine GC.seq ?_
 refine GC.seq ?_
 refine GC.region ?_
 refine GL.val (v := (.pointer (some ⟨bq1, 0, none⟩))) (Ex.cast (Ex.fieldAddr rfl Try.underlying38 rfl T.sz3 (by decide)) rfl) (by decide) ?_
 refine GL.val (Ex.load rfl T.ag3 (i := 2) rfl rfl) (by decide) ?_
 refine GL.val (v := (.bool false)) (Ex.cast (Ex.eql rfl rfl) rfl) (by decide) ?_
 refine GL.val (Ex.move rfl) (by decide) ?_
 refine GL.stepG (tj := 12) rfl rfl (Ex.wp (v := (.pointer (some ⟨bq2, 0, none⟩))) (Ex.cast (Ex.fieldAddr rfl Try.underlying38 rfl T.sz3 (by decide)) rfl) (by decide)) (fun _ _ => ?_)
 refine GL.stepG (tj := 12) rfl rfl (Ex.wp (v := (.int .i64 2)) (Ex.load rfl T.ag3 (i := 1) rfl rfl) (by decide)) (fun _ _ => ?_)
 refine GL.stepG (tj := 12) rfl rfl (Ex.wp (v := (.bool false)) (Ex.cast (Ex.eql rfl rfl) rfl) (by decide)) (fun _ _ => ?_)
 refine GL.val (v := (.bool false)) (Ex.pickF rfl rfl) (by decide) ?_
 refine GL.val (Ex.move rfl) (by decide) ?_
 refine GL.stepG (tj := 17) rfl rfl (Ex.wp (v := (.pointer (some ⟨bq1, 0, none⟩))) (Ex.cast (Ex.fieldAddr rfl Try.underlying38 rfl T.sz3 (by decide)) rfl) (by decide)) (fun _ _ => ?_)
 refine GL.stepG (tj := 17) rfl rfl (Ex.wp (v := (.int .i64 2)) (Ex.load rfl T.ag3 (i := 2) rfl rfl) (by decide)) (fun _ _ => ?_)
 refine GL.stepG (tj := 17) rfl rfl (Ex.wp (v := (.bool false)) (Ex.cast (Ex.eql rfl rfl) rfl) (by decide)) (fun _ _ => ?_)
 refine GL.stepG (tj := 17) rfl rfl (Ex.wp (v := (.bool false)) (Ex.move rfl) (by decide)) (fun _ _ => ?_)
 refine GL.skipG (tj := 21) rfl rfl rfl (by decide) ?_
 refine GL.skipG (tj := 21) rfl rfl rfl (by decide) ?_
 refine GL.skipG (tj := 21) rfl rfl rfl (by decide) ?_
 refine GL.stepG (tj := 17) rfl rfl (Ex.wp (v := (.bool false)) (Ex.pickF rfl rfl) (by decide)) (fun _ _ => ?_)
 refine GL.stepG (tj := 17) rfl rfl (Ex.wp (v := (.bool false)) (Ex.move rfl) (by decide)) (fun _ _ => ?_)
 refine GL.skipG (tj := 26) rfl rfl rfl (by decide) ?_
 refine GL.skipG (tj := 26) rfl rfl rfl (by decide) ?_
 refine GL.skipG (tj := 26) rfl rfl rfl (by decide) ?_
 refine GL.skipG (tj := 26) rfl rfl rfl (by decide) ?_
 refine GL.skipG (tj := 26) rfl rfl rfl (by decide) ?_
 refine GL.stepG (tj := 17) rfl rfl (Ex.wp (v := (.bool false)) (Ex.pickF rfl rfl) (by decide)) (fun _ _ => ?_)
 refine GL.val (v := (.bool false)) (Ex.pickF rfl rfl) (by decide) ?_
 refine GL.nil ?_
 refine GE.thenN ?_
 refine GC.cond rfl (fun hq4 => by cases hq4) (fun _ => ?_)
 refine GC.skip ?_
 refine GE.thenN ?_
 refine GC.seq ?_
 refine GC.seq ?_
 refine GC.region ?_
 refine GL.val (v := (.pointer (some ⟨bq1, 0, none⟩))) (Ex.cast (Ex.fieldAddr rfl Try.underlying38 rfl T.sz3 (by decide)) rfl) (by decide) ?_
 refine GL.val (Ex.load rfl T.ag3 (i := 2) rfl rfl) (by decide) ?_
 refine GL.val (v := (.bool false)) (Ex.cast (Ex.eql rfl rfl) rfl) (by decide) ?_
 refine GL.nil ?_
 refine GE.thenN ?_
 refine GC.cond rfl (fun hq5 => by cases hq5) (fun _ => ?_)
 refine GC.skip ?_
 refine GE.thenN ?_
 refine GC.seq ?_
 refine GC.seq ?_
 refine GC.region ?_
 refine GL.val (v := (.pointer (some ⟨bq2, 0, none⟩))) (Ex.cast (Ex.fieldAddr rfl Try.underlying38 rfl T.sz3 (by decide)) rfl) (by decide) ?_
 refine GL.val (Ex.load rfl T.ag3 (i := 1) rfl rfl) (by decide) ?_
 refine GL.val (v := (.bool false)) (Ex.cast (Ex.eql rfl rfl) rfl) (by decide) ?_
 refine GL.nil ?_
 refine GE.thenN ?_
 refine GC.cond rfl (fun hq6 => by cases hq6) (fun _ => ?_)
 refine GC.skip ?_
 refine GE.thenN ?_
 refine GC.seq ?_
 refine GC.region ?_
 refine GL.val (v := (.pointer (some ⟨bq1, 3, none⟩))) (Ex.cast (Ex.fieldAddr rfl Try.underlying38 rfl T.sz3 (by decide)) rfl) (by decide) ?_
 refine GL.val (Ex.load rfl T.ag3 (i := 2) rfl rfl) (by decide) ?_
 refine GL.val (v := (.pointer (some ⟨bq2, 3, none⟩))) (Ex.cast (Ex.fieldAddr rfl Try.underlying38 rfl T.sz3 (by decide)) rfl) (by decide) ?_
 refine GL.val (Ex.load rfl T.ag3 (i := 1) rfl rfl) (by decide) ?_
 refine GL.val (v := (.int .i64 e)) (Ex.minI rfl rfl (Z := e) (by split <;> omega)) (by decide) ?_
 refine GL.val (Ex.assign rfl) (by decide) ?_
 refine GL.nil ?_
 refine GE.thenN ?_
 refine GC.seq ?_
 by_cases hx0 : x = 0
 ·by_cases hz0 : z = 0
  ·refine GC.drawP [⟨bq3, [(.int .i64 0), (.bool false), (.slice none 0 0), (.int .i64 0), (.bool false)], 38, true⟩, ⟨bq2, [(.int .i64 2), (.bool g2), (.slice (some ⟨bz, 0, none⟩) ((Nd.nd z)) cz), (.int .i64 e2), (.bool false)], 38, true⟩, ⟨bq1, [(.int .i64 2), (.bool g1), (.slice (some ⟨bx, 0, none⟩) ((Nd.nd x)) cx), (.int .i64 e1), (.bool false)], 38, true⟩] T.mixed (by kernel_rfl) (by kernel_rfl) (fuel := 15) rfl rfl ?_
   refine GH.take 0 (v := (.pointer (some ⟨bq1, 2, none⟩))) rfl (by kernel_rfl) (by kernel_rfl) (by kernel_rfl) (fun _ _ _ h => h) (Ex.cast (Ex.fieldAddr rfl Try.underlying38 rfl T.sz36 (by decide)) rfl) (ulC (ulC (ulC ulN))) (by decide) ?_
   refine GH.take 1 (v := (.slice (some ⟨bx, 0, none⟩) ((Nd.nd x)) cx)) rfl (by kernel_rfl) (by kernel_rfl) (by kernel_rfl) (fun _ _ _ h => h) (Ex.load rfl T.ag36 (i := 2) rfl rfl) (ulC (ulC (ulC ulN))) (by decide) ?_
   refine GH.take 2 (v := (.pointer (some ⟨bq1, 3, none⟩))) rfl (by kernel_rfl) (by kernel_rfl) (by kernel_rfl) (fun _ _ _ h => h) (Ex.cast (Ex.fieldAddr rfl Try.underlying38 rfl T.sz3 (by decide)) rfl) (ulC (ulC (ulC ulN))) (by decide) ?_
   refine GH.take 3 (v := (.int .i64 e1)) rfl (by kernel_rfl) (by kernel_rfl) (by kernel_rfl) (fun _ _ _ h => h) (Ex.load rfl T.ag3 (i := 2) rfl rfl) (ulC (ulC (ulC ulN))) (by decide) ?_
   refine GH.take 4 (v := (.int .i64 e)) rfl (by kernel_rfl) (by kernel_rfl) (by kernel_rfl) (fun _ _ _ h => h) (Ex.move rfl) (ulC (ulC (ulC ulN))) (by decide) ?_
   refine GH.take 5 (v := (.int .i64 (((n1 : Nat) : Int)))) rfl (by kernel_rfl) (by kernel_rfl) (by kernel_rfl) (fun _ _ _ h => h) (Ex.sub' rfl rfl (Z := ((n1 : Nat) : Int)) (by rw [w64 (by omega)]; omega)) (ulC (ulC (ulC ulN))) (by decide) ?_
   refine GH.take 7 (v := (.pointer (some ⟨bq2, 2, none⟩))) rfl (by kernel_rfl) (by kernel_rfl) (by kernel_rfl) (fun _ _ _ h => h) (Ex.cast (Ex.fieldAddr rfl Try.underlying38 rfl T.sz36 (by decide)) rfl) (ulC (ulC (ulC ulN))) (by decide) ?_
   refine GH.take 8 (v := (.slice (some ⟨bz, 0, none⟩) ((Nd.nd z)) cz)) rfl (by kernel_rfl) (by kernel_rfl) (by kernel_rfl) (fun _ _ _ h => h) (Ex.load rfl T.ag36 (i := 1) rfl rfl) (ulC (ulC (ulC ulN))) (by decide) ?_
   refine GH.take 9 (v := (.pointer (some ⟨bq2, 3, none⟩))) rfl (by kernel_rfl) (by kernel_rfl) (by kernel_rfl) (fun _ _ _ h => h) (Ex.cast (Ex.fieldAddr rfl Try.underlying38 rfl T.sz3 (by decide)) rfl) (ulC (ulC (ulC ulN))) (by decide) ?_
   refine GH.take 10 (v := (.int .i64 e2)) rfl (by kernel_rfl) (by kernel_rfl) (by kernel_rfl) (fun _ _ _ h => h) (Ex.load rfl T.ag3 (i := 1) rfl rfl) (ulC (ulC (ulC ulN))) (by decide) ?_
   refine GH.take 11 (v := (.int .i64 e)) rfl (by kernel_rfl) (by kernel_rfl) (by kernel_rfl) (fun _ _ _ h => h) (Ex.move rfl) (ulC (ulC (ulC ulN))) (by decide) ?_
   refine GH.take 12 (v := (.int .i64 (((n2 : Nat) : Int)))) rfl (by kernel_rfl) (by kernel_rfl) (by kernel_rfl) (fun _ _ _ h => h) (Ex.sub' rfl rfl (Z := ((n2 : Nat) : Int)) (by rw [w64 (by omega)]; omega)) (ulC (ulC (ulC ulN))) (by decide) ?_
   refine GH.one 6 rfl (by kernel_rfl) (Stp.callR (vs := [(.slice (some ⟨bx, 0, none⟩) ((Nd.nd x)) cx), (.int .i64 (((n1 : Nat) : Int)))]) rfl rfl T.own61 (by decide) (fun wc hw => up_z x bx cx n1 wc (by rw [hx0]; rfl))) (fun _ => (ulC (ulC (ulC ulN)))) (fun xq11 hq12 => ?_)
   refine GH.one 13 rfl (by kernel_rfl) (Stp.callR (vs := [(.slice (some ⟨bz, 0, none⟩) ((Nd.nd z)) cz), (.int .i64 (((n2 : Nat) : Int)))]) rfl rfl T.own61 (by decide) (fun wc hw => up_z z bz cz n2 wc (by rw [hz0]; rfl))) (fun _ => (ulC (ulC (ulC ulN)))) (fun xq13 hq14 => ?_)
   refine GH.take 14 (v := (.slice none 0 0)) rfl (by kernel_rfl) (by kernel_rfl) (by kernel_rfl) (fun _ _ _ h => h) (Ex.assign rfl) (ulC (ulC (ulC ulN))) (by decide) ?_
   refine GH.done (by kernel_rfl) ?_
   refine GE.thenN ?_
   refine GE.tail rfl (Ex.wp (v := (.slice none 0 0)) (Ex.assign rfl) (by decide)) (fun _ _ => ?_)
   refine GE.thenN ?_
   refine GC.seq ?_
   refine GC.seq ?_
   refine GC.region ?_
   refine GL.val (v := (.pointer (some ⟨bq1, 1, none⟩))) (Ex.cast (Ex.fieldAddr rfl Try.underlying38 rfl T.sz4 (by decide)) rfl) (by decide) ?_
   refine GL.val (Ex.load rfl T.ag4 (i := 2) rfl rfl) (by decide) ?_
   refine GL.val (v := (.pointer (some ⟨bq2, 1, none⟩))) (Ex.cast (Ex.fieldAddr rfl Try.underlying38 rfl T.sz4 (by decide)) rfl) (by decide) ?_
   refine GL.val (Ex.load rfl T.ag4 (i := 1) rfl rfl) (by decide) ?_
   refine GL.val (v := (.bool (g1 == g2))) (Ex.eqlB rfl rfl Try.underlying4) (by decide) ?_
   refine GL.nil ?_
   refine GE.thenN ?_
   refine GC.cond rfl (fun hq15 => by exfalso; exact hg (by simpa using hq15)) (fun _ => ?_)
   refine GC.skip ?_
   refine GE.thenN ?_
   refine GC.seq ?_
   refine GC.region ?_
   refine GL.val (Ex.move rfl) (by decide) ?_
   refine GL.val (Ex.move rfl) (by decide) ?_
   refine GL.step (Stp.callR (σ := Unit) (p := fun rz => True) (v := fun rz => (.int .i64 0)) (N := fun rz => []) (vs := [(.slice none 0 0), (.slice none 0 0)]) rfl rfl T.own60 (by decide) (fun wc hw => (by have h := cmpV_nn (x * 2 ^ n1) none 0 (z * 2 ^ n2) none 0 wc (by rw [hx0, Nat.zero_mul]) (by rw [hz0, Nat.zero_mul]); rw [← Nd.cmp_same hcs] at h; exact h))) (fun xq16 hq17 => ?_)
   refine GL.val (Ex.assign rfl) (by decide) ?_
   refine GL.nil ?_
   refine GE.thenN ?_
   refine GC.seq ?_
   refine GC.seq ?_
   refine GC.region ?_
   refine GL.val (Ex.move rfl) (by decide) ?_
   refine GL.val (v := (.bool true)) (Ex.cast (Ex.eql rfl rfl) rfl) (by decide) ?_
   refine GL.nil ?_
   refine GE.thenN ?_
   refine GC.cond rfl (fun _ => ?_) (fun hq18 => by cases hq18)
   refine GC.seq ?_
   refine GC.region ?_
   refine GL.val (Ex.move rfl) (by decide) ?_
   refine GL.val (v := (.agg #[(.int .i64 2), (.bool false), (.slice none 0 0), (.int .i64 e), (.bool false)])) (Ex.build (vs := [(0, (.int .i64 2)), (3, (.int .i64 e))]) rfl (by first | rfl | kernel_rfl)) (by decide) ?_
   refine GL.step (Stp.st0 (cs' := [(.int .i64 2), (.bool false), (.slice none 0 0), (.int .i64 e), (.bool false)]) rfl rfl rfl T.sz38 rfl rfl rfl) (fun _ _ => ?_)
   refine GL.nil ?_
   refine GE.thenN ?_
   refine GC.ret ?_
   refine GE.thenR ?_
   refine GC.ret1 rfl (Rv.cellA rfl T.ag38 T.sz38 (L := _) (i := 0) rfl (vs := [(.int .i64 2), (.bool false), (.slice none 0 0), (.int .i64 e), (.bool false)]) rfl rfl) (fun wN HN => ?_)
   exact HN.ret () trivial rfl (List.nil_sublist _) rfl
  ·refine GC.drawP [⟨bq3, [(.int .i64 0), (.bool false), (.slice none 0 0), (.int .i64 0), (.bool false)], 38, true⟩, ⟨bq2, [(.int .i64 2), (.bool g2), (.slice (some ⟨bz, 0, none⟩) ((Nd.nd z)) cz), (.int .i64 e2), (.bool false)], 38, true⟩, ⟨bq1, [(.int .i64 2), (.bool g1), (.slice (some ⟨bx, 0, none⟩) ((Nd.nd x)) cx), (.int .i64 e1), (.bool false)], 38, true⟩] T.mixed (by kernel_rfl) (by kernel_rfl) (fuel := 15) rfl rfl ?_
   refine GH.take 0 (v := (.pointer (some ⟨bq1, 2, none⟩))) rfl (by kernel_rfl) (by kernel_rfl) (by kernel_rfl) (fun _ _ _ h => h) (Ex.cast (Ex.fieldAddr rfl Try.underlying38 rfl T.sz36 (by decide)) rfl) (ulC (ulC (ulC ulN))) (by decide) ?_
   refine GH.take 1 (v := (.slice (some ⟨bx, 0, none⟩) ((Nd.nd x)) cx)) rfl (by kernel_rfl) (by kernel_rfl) (by kernel_rfl) (fun _ _ _ h => h) (Ex.load rfl T.ag36 (i := 2) rfl rfl) (ulC (ulC (ulC ulN))) (by decide) ?_
   refine GH.take 2 (v := (.pointer (some ⟨bq1, 3, none⟩))) rfl (by kernel_rfl) (by kernel_rfl) (by kernel_rfl) (fun _ _ _ h => h) (Ex.cast (Ex.fieldAddr rfl Try.underlying38 rfl T.sz3 (by decide)) rfl) (ulC (ulC (ulC ulN))) (by decide) ?_
   refine GH.take 3 (v := (.int .i64 e1)) rfl (by kernel_rfl) (by kernel_rfl) (by kernel_rfl) (fun _ _ _ h => h) (Ex.load rfl T.ag3 (i := 2) rfl rfl) (ulC (ulC (ulC ulN))) (by decide) ?_
   refine GH.take 4 (v := (.int .i64 e)) rfl (by kernel_rfl) (by kernel_rfl) (by kernel_rfl) (fun _ _ _ h => h) (Ex.move rfl) (ulC (ulC (ulC ulN))) (by decide) ?_
   refine GH.take 5 (v := (.int .i64 (((n1 : Nat) : Int)))) rfl (by kernel_rfl) (by kernel_rfl) (by kernel_rfl) (fun _ _ _ h => h) (Ex.sub' rfl rfl (Z := ((n1 : Nat) : Int)) (by rw [w64 (by omega)]; omega)) (ulC (ulC (ulC ulN))) (by decide) ?_
   refine GH.take 7 (v := (.pointer (some ⟨bq2, 2, none⟩))) rfl (by kernel_rfl) (by kernel_rfl) (by kernel_rfl) (fun _ _ _ h => h) (Ex.cast (Ex.fieldAddr rfl Try.underlying38 rfl T.sz36 (by decide)) rfl) (ulC (ulC (ulC ulN))) (by decide) ?_
   refine GH.take 8 (v := (.slice (some ⟨bz, 0, none⟩) ((Nd.nd z)) cz)) rfl (by kernel_rfl) (by kernel_rfl) (by kernel_rfl) (fun _ _ _ h => h) (Ex.load rfl T.ag36 (i := 1) rfl rfl) (ulC (ulC (ulC ulN))) (by decide) ?_
   refine GH.take 9 (v := (.pointer (some ⟨bq2, 3, none⟩))) rfl (by kernel_rfl) (by kernel_rfl) (by kernel_rfl) (fun _ _ _ h => h) (Ex.cast (Ex.fieldAddr rfl Try.underlying38 rfl T.sz3 (by decide)) rfl) (ulC (ulC (ulC ulN))) (by decide) ?_
   refine GH.take 10 (v := (.int .i64 e2)) rfl (by kernel_rfl) (by kernel_rfl) (by kernel_rfl) (fun _ _ _ h => h) (Ex.load rfl T.ag3 (i := 1) rfl rfl) (ulC (ulC (ulC ulN))) (by decide) ?_
   refine GH.take 11 (v := (.int .i64 e)) rfl (by kernel_rfl) (by kernel_rfl) (by kernel_rfl) (fun _ _ _ h => h) (Ex.move rfl) (ulC (ulC (ulC ulN))) (by decide) ?_
   refine GH.take 12 (v := (.int .i64 (((n2 : Nat) : Int)))) rfl (by kernel_rfl) (by kernel_rfl) (by kernel_rfl) (fun _ _ _ h => h) (Ex.sub' rfl rfl (Z := ((n2 : Nat) : Int)) (by rw [w64 (by omega)]; omega)) (ulC (ulC (ulC ulN))) (by decide) ?_
   refine GH.one 6 rfl (by kernel_rfl) (Stp.callR (vs := [(.slice (some ⟨bx, 0, none⟩) ((Nd.nd x)) cx), (.int .i64 (((n1 : Nat) : Int)))]) rfl rfl T.own61 (by decide) (fun wc hw => up_z x bx cx n1 wc (by rw [hx0]; rfl))) (fun _ => (ulC (ulC (ulC ulN)))) (fun xq23 hq24 => ?_)
   refine GH.one 13 rfl (by kernel_rfl) (Stp.callR (vs := [(.slice (some ⟨bz, 0, none⟩) ((Nd.nd z)) cz), (.int .i64 (((n2 : Nat) : Int)))]) rfl rfl T.own61 (by decide) (fun wc hw => up_b z bz cz n2 (Nd.nd z + n2 / 32 + 1) wc (hw.rd hrz (fun x => x)) (by omega) (by omega) (by omega) rfl)) (fun _ => (ulS (ulC (ulC (ulC ulN))))) (fun xq25 hq26 => ?_)
   refine GH.take 14 (v := (.slice none 0 0)) rfl (by kernel_rfl) (by kernel_rfl) (by kernel_rfl) (fun _ _ _ h => h) (Ex.assign rfl) (ulS (ulC (ulC (ulC ulN)))) (by decide) ?_
   refine GH.done (by kernel_rfl) ?_
   refine GE.thenN ?_
   refine GE.tail rfl (Ex.wp (v := (.slice (some ⟨xq25, 0, none⟩) ((Nd.nd (z * 2 ^ n2))) ((Nd.nd z + n2 / 32 + 1)))) (Ex.assign rfl) (by decide)) (fun _ _ => ?_)
   refine GE.thenN ?_
   refine GC.seq ?_
   refine GC.seq ?_
   refine GC.region ?_
   refine GL.val (v := (.pointer (some ⟨bq1, 1, none⟩))) (Ex.cast (Ex.fieldAddr rfl Try.underlying38 rfl T.sz4 (by decide)) rfl) (by decide) ?_
   refine GL.val (Ex.load rfl T.ag4 (i := 3) rfl rfl) (by decide) ?_
   refine GL.val (v := (.pointer (some ⟨bq2, 1, none⟩))) (Ex.cast (Ex.fieldAddr rfl Try.underlying38 rfl T.sz4 (by decide)) rfl) (by decide) ?_
   refine GL.val (Ex.load rfl T.ag4 (i := 2) rfl rfl) (by decide) ?_
   refine GL.val (v := (.bool (g1 == g2))) (Ex.eqlB rfl rfl Try.underlying4) (by decide) ?_
   refine GL.nil ?_
   refine GE.thenN ?_
   refine GC.cond rfl (fun hq27 => by exfalso; exact hg (by simpa using hq27)) (fun _ => ?_)
   refine GC.skip ?_
   refine GE.thenN ?_
   refine GC.seq ?_
   refine GC.region ?_
   refine GL.val (Ex.move rfl) (by decide) ?_
   refine GL.val (Ex.move rfl) (by decide) ?_
   refine GL.step (Stp.callR (σ := Unit) (p := fun rz => True) (v := fun rz => (.int .i64 0)) (N := fun rz => []) (vs := [(.slice none 0 0), (.slice (some ⟨xq25, 0, none⟩) ((Nd.nd (z * 2 ^ n2))) ((Nd.nd z + n2 / 32 + 1)))]) rfl rfl T.own60 (by decide) (fun wc hw => (by have h := cmpV_nb (x * 2 ^ n1) none 0 (z * 2 ^ n2) xq25 ((Nd.nd z + n2 / 32 + 1)) wc (by rw [hx0, Nat.zero_mul]) (Nd.Nb.of (hw.rdOf (i := 0) rfl 0) Nd.up_lt) (by omega); rw [← Nd.cmp_same hcs] at h; exact h))) (fun xq28 hq29 => ?_)
   refine GL.val (Ex.assign rfl) (by decide) ?_
   refine GL.nil ?_
   refine GE.thenN ?_
   refine GC.seq ?_
   refine GC.seq ?_
   refine GC.region ?_
   refine GL.val (Ex.move rfl) (by decide) ?_
   refine GL.val (v := (.bool true)) (Ex.cast (Ex.eql rfl rfl) rfl) (by decide) ?_
   refine GL.nil ?_
   refine GE.thenN ?_
   refine GC.cond rfl (fun _ => ?_) (fun hq30 => by cases hq30)
   refine GC.seq ?_
   refine GC.region ?_
   refine GL.val (Ex.move rfl) (by decide) ?_
   refine GL.val (v := (.agg #[(.int .i64 2), (.bool false), (.slice none 0 0), (.int .i64 e), (.bool false)])) (Ex.build (vs := [(0, (.int .i64 2)), (3, (.int .i64 e))]) rfl (by first | rfl | kernel_rfl)) (by decide) ?_
   refine GL.step (Stp.st1 (cs' := [(.int .i64 2), (.bool false), (.slice none 0 0), (.int .i64 e), (.bool false)]) rfl rfl rfl T.sz38 rfl rfl rfl) (fun _ _ => ?_)
   refine GL.nil ?_
   refine GE.thenN ?_
   refine GC.ret ?_
   refine GE.thenR ?_
   refine GC.ret1 rfl (Rv.cellA rfl T.ag38 T.sz38 (L := _) (i := 1) rfl (vs := [(.int .i64 2), (.bool false), (.slice none 0 0), (.int .i64 e), (.bool false)]) rfl rfl) (fun wN HN => ?_)
   exact HN.ret () trivial rfl (List.nil_sublist _) rfl
 ·by_cases hz0 : z = 0
  ·refine GC.drawP [⟨bq3, [(.int .i64 0), (.bool false), (.slice none 0 0), (.int .i64 0), (.bool false)], 38, true⟩, ⟨bq2, [(.int .i64 2), (.bool g2), (.slice (some ⟨bz, 0, none⟩) ((Nd.nd z)) cz), (.int .i64 e2), (.bool false)], 38, true⟩, ⟨bq1, [(.int .i64 2), (.bool g1), (.slice (some ⟨bx, 0, none⟩) ((Nd.nd x)) cx), (.int .i64 e1), (.bool false)], 38, true⟩] T.mixed (by kernel_rfl) (by kernel_rfl) (fuel := 15) rfl rfl ?_
   refine GH.take 0 (v := (.pointer (some ⟨bq1, 2, none⟩))) rfl (by kernel_rfl) (by kernel_rfl) (by kernel_rfl) (fun _ _ _ h => h) (Ex.cast (Ex.fieldAddr rfl Try.underlying38 rfl T.sz36 (by decide)) rfl) (ulC (ulC (ulC ulN))) (by decide) ?_
   refine GH.take 1 (v := (.slice (some ⟨bx, 0, none⟩) ((Nd.nd x)) cx)) rfl (by kernel_rfl) (by kernel_rfl) (by kernel_rfl) (fun _ _ _ h => h) (Ex.load rfl T.ag36 (i := 2) rfl rfl) (ulC (ulC (ulC ulN))) (by decide) ?_
   refine GH.take 2 (v := (.pointer (some ⟨bq1, 3, none⟩))) rfl (by kernel_rfl) (by kernel_rfl) (by kernel_rfl) (fun _ _ _ h => h) (Ex.cast (Ex.fieldAddr rfl Try.underlying38 rfl T.sz3 (by decide)) rfl) (ulC (ulC (ulC ulN))) (by decide) ?_
   refine GH.take 3 (v := (.int .i64 e1)) rfl (by kernel_rfl) (by kernel_rfl) (by kernel_rfl) (fun _ _ _ h => h) (Ex.load rfl T.ag3 (i := 2) rfl rfl) (ulC (ulC (ulC ulN))) (by decide) ?_
   refine GH.take 4 (v := (.int .i64 e)) rfl (by kernel_rfl) (by kernel_rfl) (by kernel_rfl) (fun _ _ _ h => h) (Ex.move rfl) (ulC (ulC (ulC ulN))) (by decide) ?_
   refine GH.take 5 (v := (.int .i64 (((n1 : Nat) : Int)))) rfl (by kernel_rfl) (by kernel_rfl) (by kernel_rfl) (fun _ _ _ h => h) (Ex.sub' rfl rfl (Z := ((n1 : Nat) : Int)) (by rw [w64 (by omega)]; omega)) (ulC (ulC (ulC ulN))) (by decide) ?_
   refine GH.take 7 (v := (.pointer (some ⟨bq2, 2, none⟩))) rfl (by kernel_rfl) (by kernel_rfl) (by kernel_rfl) (fun _ _ _ h => h) (Ex.cast (Ex.fieldAddr rfl Try.underlying38 rfl T.sz36 (by decide)) rfl) (ulC (ulC (ulC ulN))) (by decide) ?_
   refine GH.take 8 (v := (.slice (some ⟨bz, 0, none⟩) ((Nd.nd z)) cz)) rfl (by kernel_rfl) (by kernel_rfl) (by kernel_rfl) (fun _ _ _ h => h) (Ex.load rfl T.ag36 (i := 1) rfl rfl) (ulC (ulC (ulC ulN))) (by decide) ?_
   refine GH.take 9 (v := (.pointer (some ⟨bq2, 3, none⟩))) rfl (by kernel_rfl) (by kernel_rfl) (by kernel_rfl) (fun _ _ _ h => h) (Ex.cast (Ex.fieldAddr rfl Try.underlying38 rfl T.sz3 (by decide)) rfl) (ulC (ulC (ulC ulN))) (by decide) ?_
   refine GH.take 10 (v := (.int .i64 e2)) rfl (by kernel_rfl) (by kernel_rfl) (by kernel_rfl) (fun _ _ _ h => h) (Ex.load rfl T.ag3 (i := 1) rfl rfl) (ulC (ulC (ulC ulN))) (by decide) ?_
   refine GH.take 11 (v := (.int .i64 e)) rfl (by kernel_rfl) (by kernel_rfl) (by kernel_rfl) (fun _ _ _ h => h) (Ex.move rfl) (ulC (ulC (ulC ulN))) (by decide) ?_
   refine GH.take 12 (v := (.int .i64 (((n2 : Nat) : Int)))) rfl (by kernel_rfl) (by kernel_rfl) (by kernel_rfl) (fun _ _ _ h => h) (Ex.sub' rfl rfl (Z := ((n2 : Nat) : Int)) (by rw [w64 (by omega)]; omega)) (ulC (ulC (ulC ulN))) (by decide) ?_
   refine GH.one 6 rfl (by kernel_rfl) (Stp.callR (vs := [(.slice (some ⟨bx, 0, none⟩) ((Nd.nd x)) cx), (.int .i64 (((n1 : Nat) : Int)))]) rfl rfl T.own61 (by decide) (fun wc hw => up_b x bx cx n1 (Nd.nd x + n1 / 32 + 1) wc (hw.rd hrx (fun x => x)) (by omega) (by omega) (by omega) rfl)) (fun _ => (ulS (ulC (ulC (ulC ulN))))) (fun xq35 hq36 => ?_)
   refine GH.one 13 rfl (by kernel_rfl) (Stp.callR (vs := [(.slice (some ⟨bz, 0, none⟩) ((Nd.nd z)) cz), (.int .i64 (((n2 : Nat) : Int)))]) rfl rfl T.own61 (by decide) (fun wc hw => up_z z bz cz n2 wc (by rw [hz0]; rfl))) (fun _ => (ulS (ulC (ulC (ulC ulN))))) (fun xq37 hq38 => ?_)
   refine GH.take 14 (v := (.slice (some ⟨xq35, 0, none⟩) ((Nd.nd (x * 2 ^ n1))) ((Nd.nd x + n1 / 32 + 1)))) rfl (by kernel_rfl) (by kernel_rfl) (by kernel_rfl) (fun _ _ _ h => h) (Ex.assign rfl) (ulS (ulC (ulC (ulC ulN)))) (by decide) ?_
   refine GH.done (by kernel_rfl) ?_
   refine GE.thenN ?_
   refine GE.tail rfl (Ex.wp (v := (.slice none 0 0)) (Ex.assign rfl) (by decide)) (fun _ _ => ?_)
   refine GE.thenN ?_
   refine GC.seq ?_
   refine GC.seq ?_
   refine GC.region ?_
   refine GL.val (v := (.pointer (some ⟨bq1, 1, none⟩))) (Ex.cast (Ex.fieldAddr rfl Try.underlying38 rfl T.sz4 (by decide)) rfl) (by decide) ?_
   refine GL.val (Ex.load rfl T.ag4 (i := 3) rfl rfl) (by decide) ?_
   refine GL.val (v := (.pointer (some ⟨bq2, 1, none⟩))) (Ex.cast (Ex.fieldAddr rfl Try.underlying38 rfl T.sz4 (by decide)) rfl) (by decide) ?_
   refine GL.val (Ex.load rfl T.ag4 (i := 2) rfl rfl) (by decide) ?_
   refine GL.val (v := (.bool (g1 == g2))) (Ex.eqlB rfl rfl Try.underlying4) (by decide) ?_
   refine GL.nil ?_
   refine GE.thenN ?_
   refine GC.cond rfl (fun hq39 => by exfalso; exact hg (by simpa using hq39)) (fun _ => ?_)
   refine GC.skip ?_
   refine GE.thenN ?_
   refine GC.seq ?_
   refine GC.region ?_
   refine GL.val (Ex.move rfl) (by decide) ?_
   refine GL.val (Ex.move rfl) (by decide) ?_
   refine GL.step (Stp.callR (σ := Unit) (p := fun rz => True) (v := fun rz => (.int .i64 0)) (N := fun rz => []) (vs := [(.slice (some ⟨xq35, 0, none⟩) ((Nd.nd (x * 2 ^ n1))) ((Nd.nd x + n1 / 32 + 1))), (.slice none 0 0)]) rfl rfl T.own60 (by decide) (fun wc hw => (by have h := cmpV_bn (x * 2 ^ n1) xq35 ((Nd.nd x + n1 / 32 + 1)) (z * 2 ^ n2) none 0 wc (Nd.Nb.of (hw.rdOf (i := 0) rfl 0) Nd.up_lt) (by omega) (by rw [hz0, Nat.zero_mul]); rw [← Nd.cmp_same hcs] at h; exact h))) (fun xq40 hq41 => ?_)
   refine GL.val (Ex.assign rfl) (by decide) ?_
   refine GL.nil ?_
   refine GE.thenN ?_
   refine GC.seq ?_
   refine GC.seq ?_
   refine GC.region ?_
   refine GL.val (Ex.move rfl) (by decide) ?_
   refine GL.val (v := (.bool true)) (Ex.cast (Ex.eql rfl rfl) rfl) (by decide) ?_
   refine GL.nil ?_
   refine GE.thenN ?_
   refine GC.cond rfl (fun _ => ?_) (fun hq42 => by cases hq42)
   refine GC.seq ?_
   refine GC.region ?_
   refine GL.val (Ex.move rfl) (by decide) ?_
   refine GL.val (v := (.agg #[(.int .i64 2), (.bool false), (.slice none 0 0), (.int .i64 e), (.bool false)])) (Ex.build (vs := [(0, (.int .i64 2)), (3, (.int .i64 e))]) rfl (by first | rfl | kernel_rfl)) (by decide) ?_
   refine GL.step (Stp.st1 (cs' := [(.int .i64 2), (.bool false), (.slice none 0 0), (.int .i64 e), (.bool false)]) rfl rfl rfl T.sz38 rfl rfl rfl) (fun _ _ => ?_)
   refine GL.nil ?_
   refine GE.thenN ?_
   refine GC.ret ?_
   refine GE.thenR ?_
   refine GC.ret1 rfl (Rv.cellA rfl T.ag38 T.sz38 (L := _) (i := 1) rfl (vs := [(.int .i64 2), (.bool false), (.slice none 0 0), (.int .i64 e), (.bool false)]) rfl rfl) (fun wN HN => ?_)
   exact HN.ret () trivial rfl (List.nil_sublist _) rfl
  ·refine GC.drawP [⟨bq3, [(.int .i64 0), (.bool false), (.slice none 0 0), (.int .i64 0), (.bool false)], 38, true⟩, ⟨bq2, [(.int .i64 2), (.bool g2), (.slice (some ⟨bz, 0, none⟩) ((Nd.nd z)) cz), (.int .i64 e2), (.bool false)], 38, true⟩, ⟨bq1, [(.int .i64 2), (.bool g1), (.slice (some ⟨bx, 0, none⟩) ((Nd.nd x)) cx), (.int .i64 e1), (.bool false)], 38, true⟩] T.mixed (by kernel_rfl) (by kernel_rfl) (fuel := 15) rfl rfl ?_
   refine GH.take 0 (v := (.pointer (some ⟨bq1, 2, none⟩))) rfl (by kernel_rfl) (by kernel_rfl) (by kernel_rfl) (fun _ _ _ h => h) (Ex.cast (Ex.fieldAddr rfl Try.underlying38 rfl T.sz36 (by decide)) rfl) (ulC (ulC (ulC ulN))) (by decide) ?_
   refine GH.take 1 (v := (.slice (some ⟨bx, 0, none⟩) ((Nd.nd x)) cx)) rfl (by kernel_rfl) (by kernel_rfl) (by kernel_rfl) (fun _ _ _ h => h) (Ex.load rfl T.ag36 (i := 2) rfl rfl) (ulC (ulC (ulC ulN))) (by decide) ?_
   refine GH.take 2 (v := (.pointer (some ⟨bq1, 3, none⟩))) rfl (by kernel_rfl) (by kernel_rfl) (by kernel_rfl) (fun _ _ _ h => h) (Ex.cast (Ex.fieldAddr rfl Try.underlying38 rfl T.sz3 (by decide)) rfl) (ulC (ulC (ulC ulN))) (by decide) ?_
   refine GH.take 3 (v := (.int .i64 e1)) rfl (by kernel_rfl) (by kernel_rfl) (by kernel_rfl) (fun _ _ _ h => h) (Ex.load rfl T.ag3 (i := 2) rfl rfl) (ulC (ulC (ulC ulN))) (by decide) ?_
   refine GH.take 4 (v := (.int .i64 e)) rfl (by kernel_rfl) (by kernel_rfl) (by kernel_rfl) (fun _ _ _ h => h) (Ex.move rfl) (ulC (ulC (ulC ulN))) (by decide) ?_
   refine GH.take 5 (v := (.int .i64 (((n1 : Nat) : Int)))) rfl (by kernel_rfl) (by kernel_rfl) (by kernel_rfl) (fun _ _ _ h => h) (Ex.sub' rfl rfl (Z := ((n1 : Nat) : Int)) (by rw [w64 (by omega)]; omega)) (ulC (ulC (ulC ulN))) (by decide) ?_
   refine GH.take 7 (v := (.pointer (some ⟨bq2, 2, none⟩))) rfl (by kernel_rfl) (by kernel_rfl) (by kernel_rfl) (fun _ _ _ h => h) (Ex.cast (Ex.fieldAddr rfl Try.underlying38 rfl T.sz36 (by decide)) rfl) (ulC (ulC (ulC ulN))) (by decide) ?_
   refine GH.take 8 (v := (.slice (some ⟨bz, 0, none⟩) ((Nd.nd z)) cz)) rfl (by kernel_rfl) (by kernel_rfl) (by kernel_rfl) (fun _ _ _ h => h) (Ex.load rfl T.ag36 (i := 1) rfl rfl) (ulC (ulC (ulC ulN))) (by decide) ?_
   refine GH.take 9 (v := (.pointer (some ⟨bq2, 3, none⟩))) rfl (by kernel_rfl) (by kernel_rfl) (by kernel_rfl) (fun _ _ _ h => h) (Ex.cast (Ex.fieldAddr rfl Try.underlying38 rfl T.sz3 (by decide)) rfl) (ulC (ulC (ulC ulN))) (by decide) ?_
   refine GH.take 10 (v := (.int .i64 e2)) rfl (by kernel_rfl) (by kernel_rfl) (by kernel_rfl) (fun _ _ _ h => h) (Ex.load rfl T.ag3 (i := 1) rfl rfl) (ulC (ulC (ulC ulN))) (by decide) ?_
   refine GH.take 11 (v := (.int .i64 e)) rfl (by kernel_rfl) (by kernel_rfl) (by kernel_rfl) (fun _ _ _ h => h) (Ex.move rfl) (ulC (ulC (ulC ulN))) (by decide) ?_
   refine GH.take 12 (v := (.int .i64 (((n2 : Nat) : Int)))) rfl (by kernel_rfl) (by kernel_rfl) (by kernel_rfl) (fun _ _ _ h => h) (Ex.sub' rfl rfl (Z := ((n2 : Nat) : Int)) (by rw [w64 (by omega)]; omega)) (ulC (ulC (ulC ulN))) (by decide) ?_
   refine GH.one 6 rfl (by kernel_rfl) (Stp.callR (vs := [(.slice (some ⟨bx, 0, none⟩) ((Nd.nd x)) cx), (.int .i64 (((n1 : Nat) : Int)))]) rfl rfl T.own61 (by decide) (fun wc hw => up_b x bx cx n1 (Nd.nd x + n1 / 32 + 1) wc (hw.rd hrx (fun x => x)) (by omega) (by omega) (by omega) rfl)) (fun _ => (ulS (ulC (ulC (ulC ulN))))) (fun xq47 hq48 => ?_)
   refine GH.one 13 rfl (by kernel_rfl) (Stp.callR (vs := [(.slice (some ⟨bz, 0, none⟩) ((Nd.nd z)) cz), (.int .i64 (((n2 : Nat) : Int)))]) rfl rfl T.own61 (by decide) (fun wc hw => up_b z bz cz n2 (Nd.nd z + n2 / 32 + 1) wc (hw.rd hrz (fun x => x)) (by omega) (by omega) (by omega) rfl)) (fun _ => (ulS (ulS (ulC (ulC (ulC ulN)))))) (fun xq49 hq50 => ?_)
   refine GH.take 14 (v := (.slice (some ⟨xq47, 0, none⟩) ((Nd.nd (x * 2 ^ n1))) ((Nd.nd x + n1 / 32 + 1)))) rfl (by kernel_rfl) (by kernel_rfl) (by kernel_rfl) (fun _ _ _ h => h) (Ex.assign rfl) (ulS (ulS (ulC (ulC (ulC ulN))))) (by decide) ?_
   refine GH.done (by kernel_rfl) ?_
   refine GE.thenN ?_
   refine GE.tail rfl (Ex.wp (v := (.slice (some ⟨xq49, 0, none⟩) ((Nd.nd (z * 2 ^ n2))) ((Nd.nd z + n2 / 32 + 1)))) (Ex.assign rfl) (by decide)) (fun _ _ => ?_)
   refine GE.thenN ?_
   refine GC.seq ?_
   refine GC.seq ?_
   refine GC.region ?_
   refine GL.val (v := (.pointer (some ⟨bq1, 1, none⟩))) (Ex.cast (Ex.fieldAddr rfl Try.underlying38 rfl T.sz4 (by decide)) rfl) (by decide) ?_
   refine GL.val (Ex.load rfl T.ag4 (i := 4) rfl rfl) (by decide) ?_
   refine GL.val (v := (.pointer (some ⟨bq2, 1, none⟩))) (Ex.cast (Ex.fieldAddr rfl Try.underlying38 rfl T.sz4 (by decide)) rfl) (by decide) ?_
   refine GL.val (Ex.load rfl T.ag4 (i := 3) rfl rfl) (by decide) ?_
   refine GL.val (v := (.bool (g1 == g2))) (Ex.eqlB rfl rfl Try.underlying4) (by decide) ?_
   refine GL.nil ?_
   refine GE.thenN ?_
   refine GC.cond rfl (fun hq51 => by exfalso; exact hg (by simpa using hq51)) (fun _ => ?_)
   refine GC.skip ?_
   refine GE.thenN ?_
   refine GC.seq ?_
   refine GC.region ?_
   refine GL.val (Ex.move rfl) (by decide) ?_
   refine GL.val (Ex.move rfl) (by decide) ?_
   refine GL.step (Stp.callR (σ := Unit) (p := fun rz => True) (v := fun rz => (.int .i64 0)) (N := fun rz => []) (vs := [(.slice (some ⟨xq47, 0, none⟩) ((Nd.nd (x * 2 ^ n1))) ((Nd.nd x + n1 / 32 + 1))), (.slice (some ⟨xq49, 0, none⟩) ((Nd.nd (z * 2 ^ n2))) ((Nd.nd z + n2 / 32 + 1)))]) rfl rfl T.own60 (by decide) (fun wc hw => (by have h := cmpV_bb (x * 2 ^ n1) xq47 ((Nd.nd x + n1 / 32 + 1)) (z * 2 ^ n2) xq49 ((Nd.nd z + n2 / 32 + 1)) wc (Nd.Nb.of (hw.rdOf (i := 1) rfl 0) Nd.up_lt) (by omega) (Nd.Nb.of (hw.rdOf (i := 0) rfl 0) Nd.up_lt) (by omega); rw [← Nd.cmp_same hcs] at h; exact h))) (fun xq52 hq53 => ?_)
   refine GL.val (Ex.assign rfl) (by decide) ?_
   refine GL.nil ?_
   refine GE.thenN ?_
   refine GC.seq ?_
   refine GC.seq ?_
   refine GC.region ?_
   refine GL.val (Ex.move rfl) (by decide) ?_
   refine GL.val (v := (.bool true)) (Ex.cast (Ex.eql rfl rfl) rfl) (by decide) ?_
   refine GL.nil ?_
   refine GE.thenN ?_
   refine GC.cond rfl (fun _ => ?_) (fun hq54 => by cases hq54)
   refine GC.seq ?_
   refine GC.region ?_
   refine GL.val (Ex.move rfl) (by decide) ?_
   refine GL.val (v := (.agg #[(.int .i64 2), (.bool false), (.slice none 0 0), (.int .i64 e), (.bool false)])) (Ex.build (vs := [(0, (.int .i64 2)), (3, (.int .i64 e))]) rfl (by first | rfl | kernel_rfl)) (by decide) ?_
   refine GL.step (Stp.st2 (cs' := [(.int .i64 2), (.bool false), (.slice none 0 0), (.int .i64 e), (.bool false)]) rfl rfl rfl T.sz38 rfl rfl rfl) (fun _ _ => ?_)
   refine GL.nil ?_
   refine GE.thenN ?_
   refine GC.ret ?_
   refine GE.thenR ?_
   refine GC.ret1 rfl (Rv.cellA rfl T.ag38 T.sz38 (L := _) (i := 2) rfl (vs := [(.int .i64 2), (.bool false), (.slice none 0 0), (.int .i64 e), (.bool false)]) rfl rfl) (fun wN HN => ?_)
   exact HN.ret () trivial rfl (List.nil_sublist _) rfl

end Go.Proofs.Ytbhjadkgeadpiaa.C
