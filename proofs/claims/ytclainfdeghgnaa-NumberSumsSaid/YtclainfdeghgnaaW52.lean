/- The document's numbers as ints; decimals of exact units. -/
import Derived.Test.YtclainfdeghgnaaV3
import Derived.Test.YtclainfdeghgnaaW48
import Derived.Outline
namespace Go.Proofs.Ytclainfdeghgnaa
open Go.RowKit Go.Proofs.Ytclainfdeghgnaa.Nm Go.Proofs.Ytclainfdeghgnaa.Lm
theorem cmpN_pos {a b : Nat} : 0 < cmpN a b ↔ b < a := by
  unfold cmpN; split
  · omega
  · split <;> omega
theorem run_fld84 (w : World) (b : Bool) (A : Option Addr) (n c : Nat) : (Instr.field 84 (.agg #[.bool b, .slice A n c]) 1).run Try.prog w = .ok (.slice A n c) w := by kernel_rfl
theorem ex_fld84 {ev : Operand → Value} {o : Oper} (x : Operand) (ho : o.op = .field 84 x 1) {z : Int} {A : Option Addr} {c : Nat} (hx : ev x = .agg (iv z A c)) (w : World) :
    (execOp ev o).run Try.prog w = .ok (.value (.slice A (nl z.natAbs) c)) w := by
  have h := run_fld84 w (ng z) A (nl z.natAbs) c
  unfold execOp
  simp only [ho]
  simp [hx]
  rw [show iv z A c = #[.bool (ng z), .slice A (nl z.natAbs) c] from rfl, h]
  rfl
set_option maxHeartbeats 1000000 in
set_option maxRecDepth 100000 in
theorem smallI_over (z most : Int) (A : Option Addr) (c : Nat) (w : World) (hm0 : 0 ≤ most) (hm : most ≤ 1000000000000000000) (hI : IvAt w z A c) (nz : nl z.natAbs ≤ 400) (ho : most.natAbs < z.natAbs) :
    Calls Try.prog 117 #[.agg (iv z A c), .int .i64 most] w fun e w' => e = .returned (.tuple #[.int .i64 0, .bool false]) ∧ Below w.heap.size w w' := by
  obtain ⟨C, hC⟩ : ∃ C, C = cmpN z.natAbs most.natAbs := ⟨_, rfl⟩
  have hpos : 0 < C := by rw [hC]; exact cmpN_pos.2 ho
  have HC := Lib.hid hC
  clear hC ho
  have HI := Lib.hid hI
  have HN := Lib.hid nz
  clear hI nz
  go_enter Try.func117, Try.ntmps117
  go_upto_region 1 with (fail)
  refine wp_world (fun W => W.heap[w.heap.size]? = some (.cells (iv z A c) 84 (0, 0)) ∧ Below w.heap.size w W) ⟨ha_new rfl, (Below.refl _ _).alloc (Nat.le_refl _) _⟩ ?_
  rintro W ⟨h0, hb⟩
  have a1 := iv1 h0
  have i1 := HI.out.below hb.drew
  replace hb := hb.drew
  refine wp_region_held_drew (S := Kept [] W) mixed (Kept.drew [] W) (fun hS => ?_)
  refine ha_k (i := 0) rfl (by kernel_rfl) (by kernel_rfl) (by kernel_rfl) (fun _ _ _ _ h => h) hS rfl (fun K hK => ?_); go_simp; refine hK _ ?_; clear hK K; try simp only [put_lit, List.set_cons_zero, List.set_cons_succ]
  refine ha_val (i := 1) rfl (by kernel_rfl) (by kernel_rfl) (by kernel_rfl) (fun _ _ _ h => h) hS rfl (fun w' hw' => ex_one rfl (one82 (hw'.cell a1 (by simp <;> omega)))) ?_; try simp only [put_lit, List.set_cons_zero, List.set_cons_succ]
  refine ha_k (i := 2) rfl (by kernel_rfl) (by kernel_rfl) (by kernel_rfl) (fun _ _ _ _ h => h) hS rfl (fun K hK => ?_); go_simp; refine hK _ ?_; clear hK K; try simp only [put_lit, List.set_cons_zero, List.set_cons_succ]
  refine ha_call (i := 3) (by kernel_rfl) rfl rfl (fun K hK => ?_); go_simp; refine ⟨_, _, ⟨rfl, rfl⟩, hK _ _ ⟨_, Of_any most (by omega) (by omega) _, ?_⟩⟩; clear hK K; rintro e w2 ⟨A2, c2, rfl, i2, hb1⟩; refine ⟨_, rfl, hS.below hb1, ?_⟩; replace hS := hS.below hb1; replace h0 := below_look hb1 h0; replace i1 := i1.below hb1; replace hb := hb.trans (hb1.mono hb.size); clear hb1; try simp only [put_lit, List.set_cons_zero, List.set_cons_succ]
  refine ha_val (i := 4) rfl (by kernel_rfl) (by kernel_rfl) (by kernel_rfl) (fun _ _ _ h => h) hS rfl (fun w' _ => ex_fld84 _ rfl rfl w') ?_; try simp only [put_lit, List.set_cons_zero, List.set_cons_succ]
  refine ha_call (i := 5) (by kernel_rfl) rfl rfl (fun K hK => ?_); go_simp; refine ⟨_, _, ⟨rfl, rfl⟩, hK _ _ ⟨_, compareN_any _ _ _ _ z.natAbs most.natAbs _ i1.2 i2.2 (by have := HN.out; omega), ?_⟩⟩; clear hK K; rintro e w3 ⟨rfl, hb1⟩; refine ⟨_, rfl, hS.below hb1, ?_⟩; replace hS := hS.below hb1; replace h0 := below_look hb1 h0; replace i1 := i1.below hb1; replace hb := hb.trans (hb1.mono hb.size); clear hb1; try simp only [put_lit, List.set_cons_zero, List.set_cons_succ]
  rw [← HC.out]
  refine ha_k (i := 6) rfl (by kernel_rfl) (by kernel_rfl) (by kernel_rfl) (fun _ _ _ _ h => h) hS rfl (fun K hK => ?_); go_simp; refine hK _ ?_; clear hK K; try simp only [put_lit, List.set_cons_zero, List.set_cons_succ]
  refine wpAnyH_done (by kernel_rfl) ?_ _
  go_wp2_with fail
  exact bodyPost_ret (results_tmp2 rfl _ _ _) rfl ⟨rfl, hb⟩
theorem or64 {x y : Nat} (hx : x ≤ 1000000000) (hy : y < 4294967296) : bits .or .i64 ((x : Int) * 4294967296) (y : Int) = (x : Int) * 4294967296 + (y : Int) :=
  bits_join .i64 63 (by decide) (fun n h0 h1 => IntWalk.i64_in n ⟨by omega, by omega⟩) 32 _ _ (by omega) (by omega) (by omega) (by omega) (by omega) (by omega)
set_option maxHeartbeats 1000000 in
set_option maxRecDepth 100000 in
theorem smallI_under (z most : Int) (A : Option Addr) (c : Nat) (w : World) (hm0 : 0 ≤ most) (hm : most ≤ 1000000000000000000) (hI : IvAt w z A c) (nz : nl z.natAbs ≤ 400) (ho : ¬ most.natAbs < z.natAbs) :
    Calls Try.prog 117 #[.agg (iv z A c), .int .i64 most] w fun e w' => e = .returned (.tuple #[.int .i64 z, .bool true]) ∧ Below w.heap.size w w' := by
  obtain ⟨C, hC⟩ : ∃ C, C = cmpN z.natAbs most.natAbs := ⟨_, rfl⟩
  have hpos : ¬ 0 < C := by rw [hC, cmpN_pos]; exact ho
  have HC := Lib.hid hC
  have HZ := Lib.hid (show z.natAbs ≤ 1000000000000000000 by omega)
  clear hC ho
  have HI := Lib.hid hI
  have HN := Lib.hid nz
  clear hI nz
  go_enter Try.func117, Try.ntmps117
  go_upto_region 1 with (fail)
  refine wp_world (fun W => W.heap[w.heap.size]? = some (.cells (iv z A c) 84 (0, 0)) ∧ Below w.heap.size w W) ⟨ha_new rfl, (Below.refl _ _).alloc (Nat.le_refl _) _⟩ ?_
  rintro W ⟨h0, hb⟩
  have a1 := iv1 h0
  have i1 := HI.out.below hb.drew
  replace hb := hb.drew
  refine wp_region_held_drew (S := Kept [] W) mixed (Kept.drew [] W) (fun hS => ?_)
  refine ha_k (i := 0) rfl (by kernel_rfl) (by kernel_rfl) (by kernel_rfl) (fun _ _ _ _ h => h) hS rfl (fun K hK => ?_); go_simp; refine hK _ ?_; clear hK K; try simp only [put_lit, List.set_cons_zero, List.set_cons_succ]
  refine ha_val (i := 1) rfl (by kernel_rfl) (by kernel_rfl) (by kernel_rfl) (fun _ _ _ h => h) hS rfl (fun w' hw' => ex_one rfl (one82 (hw'.cell a1 (by simp <;> omega)))) ?_; try simp only [put_lit, List.set_cons_zero, List.set_cons_succ]
  refine ha_k (i := 2) rfl (by kernel_rfl) (by kernel_rfl) (by kernel_rfl) (fun _ _ _ _ h => h) hS rfl (fun K hK => ?_); go_simp; refine hK _ ?_; clear hK K; try simp only [put_lit, List.set_cons_zero, List.set_cons_succ]
  refine ha_call (i := 3) (by kernel_rfl) rfl rfl (fun K hK => ?_); go_simp; refine ⟨_, _, ⟨rfl, rfl⟩, hK _ _ ⟨_, Of_any most (by omega) (by omega) _, ?_⟩⟩; clear hK K; rintro e w2 ⟨A2, c2, rfl, i2, hb1⟩; refine ⟨_, rfl, hS.below hb1, ?_⟩; replace hS := hS.below hb1; replace h0 := below_look hb1 h0; replace i1 := i1.below hb1; replace hb := hb.trans (hb1.mono hb.size); clear hb1; try simp only [put_lit, List.set_cons_zero, List.set_cons_succ]
  refine ha_val (i := 4) rfl (by kernel_rfl) (by kernel_rfl) (by kernel_rfl) (fun _ _ _ h => h) hS rfl (fun w' _ => ex_fld84 _ rfl rfl w') ?_; try simp only [put_lit, List.set_cons_zero, List.set_cons_succ]
  refine ha_call (i := 5) (by kernel_rfl) rfl rfl (fun K hK => ?_); go_simp; refine ⟨_, _, ⟨rfl, rfl⟩, hK _ _ ⟨_, compareN_any _ _ _ _ z.natAbs most.natAbs _ i1.2 i2.2 (by have := HN.out; omega), ?_⟩⟩; clear hK K; rintro e w3 ⟨rfl, hb1⟩; refine ⟨_, rfl, hS.below hb1, ?_⟩; replace hS := hS.below hb1; replace h0 := below_look hb1 h0; replace i1 := i1.below hb1; replace hb := hb.trans (hb1.mono hb.size); clear hb1; try simp only [put_lit, List.set_cons_zero, List.set_cons_succ]
  rw [← HC.out]
  refine ha_k (i := 6) rfl (by kernel_rfl) (by kernel_rfl) (by kernel_rfl) (fun _ _ _ _ h => h) hS rfl (fun K hK => ?_); go_simp; refine hK _ ?_; clear hK K; try simp only [put_lit, List.set_cons_zero, List.set_cons_succ]
  refine wpAnyH_done (by kernel_rfl) ?_ _
  clear hpos
  have a1 := iv1 h0
  have hnl := HN.out
  go_wp2_with fail
  clear a1
  go_loopw [6, 7] (fun n i wr => ∃ k : Nat, k ≤ nl z.natAbs ∧ i = .int .i64 ((k : Int) - 1) ∧ n = .int .i64 ((z.natAbs / B ^ k : Nat) : Int) ∧ wr.heap[w.heap.size]? = some (.cells (iv z A c) 84 (0, 0)) ∧ IvAt wr z A c ∧ Below w.heap.size w wr) (fun _ i _ => (intOf i + 1).toNat)
  case atStart =>
    refine ⟨nl z.natAbs, Nat.le_refl _, ?_, ?_, h0, i1, hb⟩
    · first | rfl | go_num
    · rw [Nat.div_eq_of_lt (nl_spec _)]; rfl
  case round =>
    clear h0 i1 hb
    obtain ⟨k, hk, rfl, rfl, h0, i1, hb⟩ := hrel
    rcases k with _ | j
    · have a0 := iv0 h0
      have hz : ((z.natAbs / B ^ 0 : Nat) : Int) = (z.natAbs : Int) := by simp
      rw [hz]
      clear hz
      obtain ⟨N, hN⟩ : ∃ N, N = z.natAbs := ⟨_, rfl⟩
      have hNb := HZ.out
      rw [← hN] at hNb ⊢
      have HNN := Lib.hid hN
      clear hN
      cases hs : ng z
      · have e : (N : Int) = z := by have := HNN.out; rw [ng_def] at hs; simp at hs; omega
        rw [hs] at a0
        have E := Lib.hid e
        clear e hs
        go_wp2_with fail
        exact bodyPost_ret (results_tmp2 rfl _ _ _) rfl ⟨by rw [← E.out]; rfl, hb⟩
      · have e : -(N : Int) = z := by have := HNN.out; rw [ng_def] at hs; simp at hs; omega
        rw [hs] at a0
        have E := Lib.hid e
        clear e hs
        go_wp2_with fail
        exact bodyPost_ret (results_tmp2 rfl _ _ _) rfl ⟨by rw [← E.out]; rfl, hb⟩
    · have ds := Lm.div_split z.natAbs j
      have hle : z.natAbs / B ^ j ≤ 1000000000000000000 := Nat.le_trans (Nat.div_le_self _ _) HZ.out
      have hy := lm_32 z.natAbs j
      obtain ⟨q, hq⟩ : ∃ q, q = z.natAbs / B ^ (j + 1) := ⟨_, rfl⟩
      obtain ⟨y, hyy⟩ : ∃ y, y = lm z.natAbs j := ⟨_, rfl⟩
      rw [← hq, ← hyy] at ds
      rw [← hyy] at hy
      have hqb : q ≤ 1000000000 := by rw [ds, B_eq] at hle; omega
      obtain ⟨g, rfl, hg, ca⟩ := i1.2.at_ (k := j) (by omega)
      rw [← hyy] at ca
      rw [show ((j + 1 : Nat) : Int) - 1 = (j : Int) by omega, ← hq]
      have HDS := Lib.hid ds
      have HK := Lib.hid hk
      have a1 := iv1 h0
      obtain ⟨n, hn⟩ : ∃ n, n = nl z.natAbs := ⟨_, rfl⟩
      rw [← hn] at a1 hk HK hnl
      have hjn : j < n := by omega
      have HNN := Lib.hid hn
      have w1 : IntKind.i64.wrap ((q : Int) * 4294967296) = (q : Int) * 4294967296 := IntWalk.i64_in _ (by omega)
      have w2 := or64 hqb hy
      clear hq hyy ds hle hn
      go_wp2_with fail
      go_roundw
      case rel => exact ⟨j, by rw [← HNN.out]; omega, by go_num, by rw [HDS.out, B_eq]; go_num, h0, i1, hb⟩
      case measure => simp [intOf]
theorem smallI_any (z most : Int) (A : Option Addr) (c : Nat) (w : World) (hm0 : 0 ≤ most) (hm : most ≤ 1000000000000000000) (hI : IvAt w z A c) (nz : nl z.natAbs ≤ 400) :
    Calls Try.prog 117 #[.agg (iv z A c), .int .i64 most] w fun e w' => e = .returned (.tuple #[.int .i64 (if most.natAbs < z.natAbs then 0 else z), .bool (!decide (most.natAbs < z.natAbs))]) ∧ Below w.heap.size w w' := by
  by_cases h : most.natAbs < z.natAbs
  · rw [if_pos h, decide_eq_true h]; exact smallI_over z most A c w hm0 hm hI nz h
  · rw [if_neg h, decide_eq_false h]; exact smallI_under z most A c w hm0 hm hI nz h
set_option maxHeartbeats 1000000 in
theorem decimal_any (z scale : Int) (A : Option Addr) (c : Nat) (w : World) (hI : IvAt w z A c) (nz : nl z.natAbs ≤ 400) (u k e : Int) (hu : Hid (u = madeU z)) (hk : Hid (k = madeK z scale)) (he : Hid (e = madeE z)) :
    Calls Try.prog 80 #[.agg (iv z A c), .int .i64 scale] w fun e' w' => e' = .returned (.tuple #[.agg (dc u k), .int .i64 e]) ∧ Below w.heap.size w w' := by
  rw [hu.out, hk.out, he.out]
  clear hu hk he
  unfold madeU madeK madeE
  have HI := Lib.hid hI
  have HN := Lib.hid nz
  clear hI nz
  by_cases h : 100000000000000000 < z.natAbs
  · simp only [if_pos h]
    have H := Lib.hid h
    clear h
    go_enter Try.func80, Try.ntmps80
    go_upto_region 1 with (fail)
    refine wp_world (fun W => W.heap[w.heap.size]? = some (.cells (iv z A c) 84 (0, 0)) ∧ W.heap[w.heap.size + 1]? = some (.cells (dc 0 0) 33 (0, 0)) ∧ Below w.heap.size w W) ⟨ha_old (ha_new rfl), ha_new (by simp), ((Below.refl _ _).alloc (Nat.le_refl _) _).alloc (by simp) _⟩ ?_
    rintro W ⟨h0, h1, hb⟩
    apply wp_region_lit
    ((with_reducible apply wl_rowG); exact rfl; exact rfl; exact rowIv (by with_reducible assumption))
    refine wl_ck rfl (fun K hK => ?_); go_simp; refine ⟨_, _, ⟨rfl, rfl⟩, hK _ _ ⟨_, smallI_over z _ A c _ (by decide) (by decide) (HI.out.below hb) HN.out H.out, ?_⟩⟩; clear hK K; rintro e w1 ⟨rfl, hb1⟩; refine ⟨_, rfl, ?_⟩; simp only [put_lit, List.set_cons_zero, List.set_cons_succ]
    replace h1 := below_look hb1 h1; replace hb := hb.trans (hb1.mono hb.size); clear hb1
    have c0 := dc0 h1
    have c1 := dc1 h1
    have f0 : w1.frozen? ⟨w.heap.size + 1, 0, none⟩ = false := frozen_of_row _ _ _ _ _ h1
    have f1 : w1.frozen? ⟨w.heap.size + 1, 1, none⟩ = false := frozen_of_row _ _ _ _ _ h1
    go_wp2_with fail
    refine bodyPost_ret (res_decErr rfl _ _ (w.heap.size + 1) rfl ((hs_new (hs_new h1)).trans rfl)) rfl ⟨?_, (hb.setCell (by simp) _).setCell (by simp) _⟩
    rfl
  · simp only [if_neg h]
    have H := Lib.hid h
    clear h
    go_enter Try.func80, Try.ntmps80
    go_upto_region 1 with (fail)
    refine wp_world (fun W => W.heap[w.heap.size]? = some (.cells (iv z A c) 84 (0, 0)) ∧ W.heap[w.heap.size + 1]? = some (.cells (dc 0 0) 33 (0, 0)) ∧ Below w.heap.size w W) ⟨ha_old (ha_new rfl), ha_new (by simp), ((Below.refl _ _).alloc (Nat.le_refl _) _).alloc (by simp) _⟩ ?_
    rintro W ⟨h0, h1, hb⟩
    apply wp_region_lit
    ((with_reducible apply wl_rowG); exact rfl; exact rfl; exact rowIv (by with_reducible assumption))
    refine wl_ck rfl (fun K hK => ?_); go_simp; refine ⟨_, _, ⟨rfl, rfl⟩, hK _ _ ⟨_, smallI_under z _ A c _ (by decide) (by decide) (HI.out.below hb) HN.out H.out, ?_⟩⟩; clear hK K; rintro e w1 ⟨rfl, hb1⟩; refine ⟨_, rfl, ?_⟩; simp only [put_lit, List.set_cons_zero, List.set_cons_succ]
    replace h1 := below_look hb1 h1; replace hb := hb.trans (hb1.mono hb.size); clear hb1
    have c0 := dc0 h1
    have c1 := dc1 h1
    have f0 : w1.frozen? ⟨w.heap.size + 1, 0, none⟩ = false := frozen_of_row _ _ _ _ _ h1
    have f1 : w1.frozen? ⟨w.heap.size + 1, 1, none⟩ = false := frozen_of_row _ _ _ _ _ h1
    go_wp2_with fail
    refine bodyPost_ret (res_decErr rfl _ _ (w.heap.size + 1) rfl ((hs_new (hs_new h1)).trans rfl)) rfl ⟨?_, (hb.setCell (by simp) _).setCell (by simp) _⟩
    rfl
theorem TensT_any (x : Int) (h0 : 0 ≤ x) (h : x ≤ 36) (w : World) :
    Calls Try.prog 79 #[.int .i64 x] w fun e w' => ∃ A2 c2, e = .returned (.agg (iv (t10 x) A2 c2)) ∧ IvAt w' (t10 x) A2 c2 ∧ Below w.heap.size w w' := by
  obtain ⟨n, rfl⟩ := Int.eq_ofNat_of_zero_le h0
  exact TensI_any n (by omega) w
theorem nl_t10 {x : Int} (h : x ≤ 36) : nl (t10 x).natAbs ≤ 4 := by rw [t10_abs]; exact nl_p10 (by omega)
theorem nl_i64 {u : Int} (h1 : -9223372036854775808 ≤ u) (h2 : u ≤ 9223372036854775807) : nl u.natAbs ≤ 2 := nl_le _ _ (lim64 (by omega))
set_option maxHeartbeats 1000000 in
theorem unitsI_any (u k scale : Int) (HU : Hid (UBd u k scale)) (w : World) :
    Calls Try.prog 88 #[.agg (dc u k), .int .i64 scale] w fun e w' => ∃ A2 c2, e = .returned (.agg (iv (u * t10 (scale - k)) A2 c2)) ∧ IvAt w' (u * t10 (scale - k)) A2 c2 ∧ Below w.heap.size w w' := by
  have i1 : IntKind.i64.wrap (scale - k) = scale - k := IntWalk.i64_in _ (by obtain ⟨_, _, _, _, _⟩ := HU.out; omega)
  go_enter Try.func88, Try.ntmps88
  go_upto_region 1 with (fail)
  refine wp_world (fun W => W.heap[w.heap.size]? = some (.cells (dc u k) 33 (0, 0)) ∧ W.heap[w.heap.size + 1]? = some (.cells (iv 0 none 0) 84 (0, 0)) ∧ Below w.heap.size w W) ⟨ha_old (ha_new rfl), by rw [iv_zero]; exact ha_new (by simp), ((Below.refl _ _).alloc (Nat.le_refl _) _).alloc (by simp) _⟩ ?_
  rintro W ⟨h0, h1, hb⟩
  have a0 := dc0 h0
  have a1 := dc1 h0
  replace hb := hb.drew
  refine wp_region_held_drew (S := Kept [w.heap.size + 1] W) mixed (Kept.drew [w.heap.size + 1] W) (fun hS => ?_)
  refine ha_k (i := 0) rfl (by kernel_rfl) (by kernel_rfl) (by kernel_rfl) (fun _ _ _ _ h => h) hS rfl (fun K hK => ?_); go_simp; refine hK _ ?_; clear hK K; try simp only [put_lit, List.set_cons_zero, List.set_cons_succ]
  refine ha_val (i := 1) rfl (by kernel_rfl) (by kernel_rfl) (by kernel_rfl) (fun _ _ _ h => h) hS rfl (fun w' hw' => ex_one rfl (one3 (hw'.cell a0 (by simp <;> omega)))) ?_; try simp only [put_lit, List.set_cons_zero, List.set_cons_succ]
  refine ha_k (i := 3) rfl (by kernel_rfl) (by kernel_rfl) (by kernel_rfl) (fun _ _ _ _ h => h) hS rfl (fun K hK => ?_); go_simp; refine hK _ ?_; clear hK K; try simp only [put_lit, List.set_cons_zero, List.set_cons_succ]
  refine ha_k (i := 4) rfl (by kernel_rfl) (by kernel_rfl) (by kernel_rfl) (fun _ _ _ _ h => h) hS rfl (fun K hK => ?_); go_simp; refine hK _ ?_; clear hK K; try simp only [put_lit, List.set_cons_zero, List.set_cons_succ]
  refine ha_val (i := 5) rfl (by kernel_rfl) (by kernel_rfl) (by kernel_rfl) (fun _ _ _ h => h) hS rfl (fun w' hw' => ex_one rfl (one3 (hw'.cell a1 (by simp <;> omega)))) ?_; try simp only [put_lit, List.set_cons_zero, List.set_cons_succ]
  refine ha_k (i := 6) rfl (by kernel_rfl) (by kernel_rfl) (by kernel_rfl) (fun _ _ _ _ h => h) hS rfl (fun K hK => ?_); go_simp; refine hK _ ?_; clear hK K; try simp only [put_lit, List.set_cons_zero, List.set_cons_succ]
  try rw [i1]
  refine ha_call (i := 2) (by kernel_rfl) rfl rfl (fun K hK => ?_); go_simp; refine ⟨_, _, ⟨rfl, rfl⟩, hK _ _ ⟨_, Of_any u (by have := HU.out.u1; omega) (by have := HU.out.u2; omega) _, ?_⟩⟩; clear hK K; rintro e w1 ⟨A1, c1, rfl, j1, hb1⟩; refine ⟨_, rfl, hS.below hb1, ?_⟩; replace hS := hS.below hb1; replace h1 := below_look hb1 h1; replace hb := hb.trans (hb1.mono hb.size); clear hb1; try simp only [put_lit, List.set_cons_zero, List.set_cons_succ]
  refine ha_call (i := 7) (by kernel_rfl) rfl rfl (fun K hK => ?_); go_simp; refine ⟨_, _, ⟨rfl, rfl⟩, hK _ _ ⟨_, TensT_any (scale - k) (by have := HU.out.ks; omega) (by have := HU.out.s9; have := HU.out.k0; omega) _, ?_⟩⟩; clear hK K; rintro e w2 ⟨A2, c2, rfl, j2, hb1⟩; refine ⟨_, rfl, hS.below hb1, ?_⟩; replace hS := hS.below hb1; replace h1 := below_look hb1 h1; replace j1 := j1.below hb1; replace hb := hb.trans (hb1.mono hb.size); clear hb1; try simp only [put_lit, List.set_cons_zero, List.set_cons_succ]
  refine ha_call (i := 8) (by kernel_rfl) rfl rfl (fun K hK => ?_); go_simp; refine ⟨_, _, ⟨rfl, rfl⟩, hK _ _ ⟨_, TimesI_any _ _ _ _ _ _ _ j1 j2 (by have := nl_i64 (u := u) (by have := HU.out.u1; omega) (by have := HU.out.u2; omega); omega) (by have := nl_t10 (x := scale - k) (by have := HU.out.s9; have := HU.out.k0; omega); omega), ?_⟩⟩; clear hK K; rintro e w3 ⟨A3, c3, rfl, j3, hb1⟩; refine ⟨_, rfl, hS.below hb1, ?_⟩; replace hS := hS.below hb1; replace h1 := below_look hb1 h1; replace hb := hb.trans (hb1.mono hb.size); clear hb1; try simp only [put_lit, List.set_cons_zero, List.set_cons_succ]
  refine ha_store (i := 9) (by kernel_rfl) rfl rfl 84 _ _ rfl _ (iv (u * t10 (scale - k)) A3 c3) rfl rfl 84 _ h1 info84 rfl (iv_one _ _ _) (hS.setRow (by simp) _) (fun hS => ?_); try simp only [put_lit, List.set_cons_zero, List.set_cons_succ]
  refine wpAnyH_done (by kernel_rfl) ?_ _
  go_wp2_with fail
  exact bodyPost_ret (res_iv rfl _ _ (w.heap.size + 1) rfl (hr_new h1)) rfl ⟨A3, c3, rfl, j3.put h1 _, below_setRow hb (by omega) _⟩
set_option maxHeartbeats 1000000 in
theorem ValidI_any (u k : Int) (R : Bool) (HR : Hid (R = validD u k)) (w : World) :
    Calls Try.prog 86 #[.agg (dc u k)] w fun e w' => e = .returned (.bool R) ∧ Below w.heap.size w w' := by
  go_enter Try.func86, Try.ntmps86
  go_upto_region 1 with (fail)
  refine wp_world (fun W => W.heap[w.heap.size]? = some (.cells (dc u k) 33 (0, 0)) ∧ Below w.heap.size w W) ⟨ha_new rfl, ((Below.refl _ _).alloc (Nat.le_refl _) _)⟩ ?_
  rintro W ⟨h0, hb⟩
  have c0 := dc0 h0
  have c1 := dc1 h0
  go_wp2_with fail
  all_goals
    go_ret
    refine ⟨congrArg (fun b => Ending.returned (.bool b)) (?_ : _ = R), hb⟩
    rw [HR.out]
    clear HR h0 hb c0 c1
    unfold validD
    first
    | (simp [*]; done)
    | (simp [*]; omega)
end Go.Proofs.Ytclainfdeghgnaa
