/- The document's numbers as ints; decimals of exact units. The document's sums, differences and comparisons of decimals. Plain facts on rounding: it keeps whole numbers, is never off by one unit, and goes along with the order. Decimals rounded. The document's questions ahead of a rounding. A quotient rounded, the document's. A quotient rounded to the even, the document's. A quotient rounded, the document's: whatever the mode; a decimal rounded. The law of the roundings of decimals. -/
import Derived.Test.YtclainfdeghgnaaV3
import Derived.Test.YtclainfdeghgnaaW48
import Derived.Outline
import Derived.Test.YtclainfdeghgnaaW29
import Derived.Test.YtclainfdeghgnaaM9
import Derived.Test.YtclainfdeghgnaaW50
namespace Go.Proofs.Ytclainfdeghgnaa
open Go.RowKit Go.Proofs.Ytclainfdeghgnaa.Nm Go.Proofs.Ytclainfdeghgnaa.Lm
theorem cmpN_pos {a b : Nat} : 0 < cmpN a b ↔ b < a := by
  unfold cmpN; split
  · omega
  · split <;> omega
theorem run_fld84 (w : World) (b : Bool) (A : Option Addr) (n c : Nat) : (Instr.field 84 (.agg #[.bool b, .slice A n c]) 1).run Try.prog w = .ok (.slice A n c) w := by kernel_rfl
theorem ex_fld84 {ev : Operand → Value} {o : Oper} (x : Operand) (ho : o.op = .field 84 x 1) {z : Int} {A : Option Addr} {c : Nat} (hx : ev x = .agg (iv z A c)) (w : World) :
    (execOp ev o).run Try.prog w = .ok (.value (.slice A (nl z.natAbs) c)) w := by
  have h := run_fld84 w (ng z) A (nl z.natAbs) c
  unfold execOp
  simp only [ho]
  simp [hx]
  rw [show iv z A c = #[.bool (ng z), .slice A (nl z.natAbs) c] from rfl, h]
  rfl
set_option maxHeartbeats 1000000 in
set_option maxRecDepth 100000 in
theorem smallI_over (z most : Int) (A : Option Addr) (c : Nat) (w : World) (hm0 : 0 ≤ most) (hm : most ≤ 1000000000000000000) (hI : IvAt w z A c) (nz : nl z.natAbs ≤ 400) (ho : most.natAbs < z.natAbs) :
    Calls Try.prog 117 #[.agg (iv z A c), .int .i64 most] w fun e w' => e = .returned (.tuple #[.int .i64 0, .bool false]) ∧ Below w.heap.size w w' := by
  obtain ⟨C, hC⟩ : ∃ C, C = cmpN z.natAbs most.natAbs := ⟨_, rfl⟩
  have hpos : 0 < C := by rw [hC]; exact cmpN_pos.2 ho
  have HC := Lib.hid hC
  clear hC ho
  have HI := Lib.hid hI
  have HN := Lib.hid nz
  clear hI nz
  go_enter Try.func117, Try.ntmps117
  go_upto_region 1 with (fail)
  refine wp_world (fun W => W.heap[w.heap.size]? = some (.cells (iv z A c) 84 (0, 0)) ∧ Below w.heap.size w W) ⟨ha_new rfl, (Below.refl _ _).alloc (Nat.le_refl _) _⟩ ?_
  rintro W ⟨h0, hb⟩
  have a1 := iv1 h0
  have i1 := HI.out.below hb.drew
  replace hb := hb.drew
  refine wp_region_held_drew (S := Kept [] W) mixed (Kept.drew [] W) (fun hS => ?_)
  refine ha_k (i := 0) rfl (by kernel_rfl) (by kernel_rfl) (by kernel_rfl) (fun _ _ _ _ h => h) hS rfl (fun K hK => ?_); go_simp; refine hK _ ?_; clear hK K; try simp only [put_lit, List.set_cons_zero, List.set_cons_succ]
  refine ha_val (i := 1) rfl (by kernel_rfl) (by kernel_rfl) (by kernel_rfl) (fun _ _ _ h => h) hS rfl (fun w' hw' => ex_one rfl (one82 (hw'.cell a1 (by simp <;> omega)))) ?_; try simp only [put_lit, List.set_cons_zero, List.set_cons_succ]
  refine ha_k (i := 2) rfl (by kernel_rfl) (by kernel_rfl) (by kernel_rfl) (fun _ _ _ _ h => h) hS rfl (fun K hK => ?_); go_simp; refine hK _ ?_; clear hK K; try simp only [put_lit, List.set_cons_zero, List.set_cons_succ]
  refine ha_call (i := 3) (by kernel_rfl) rfl rfl (fun K hK => ?_); go_simp; refine ⟨_, _, ⟨rfl, rfl⟩, hK _ _ ⟨_, Of_any most (by omega) (by omega) _, ?_⟩⟩; clear hK K; rintro e w2 ⟨A2, c2, rfl, i2, hb1⟩; refine ⟨_, rfl, hS.below hb1, ?_⟩; replace hS := hS.below hb1; replace h0 := below_look hb1 h0; replace i1 := i1.below hb1; replace hb := hb.trans (hb1.mono hb.size); clear hb1; try simp only [put_lit, List.set_cons_zero, List.set_cons_succ]
  refine ha_val (i := 4) rfl (by kernel_rfl) (by kernel_rfl) (by kernel_rfl) (fun _ _ _ h => h) hS rfl (fun w' _ => ex_fld84 _ rfl rfl w') ?_; try simp only [put_lit, List.set_cons_zero, List.set_cons_succ]
  refine ha_call (i := 5) (by kernel_rfl) rfl rfl (fun K hK => ?_); go_simp; refine ⟨_, _, ⟨rfl, rfl⟩, hK _ _ ⟨_, compareN_any _ _ _ _ z.natAbs most.natAbs _ i1.2 i2.2 (by have := HN.out; omega), ?_⟩⟩; clear hK K; rintro e w3 ⟨rfl, hb1⟩; refine ⟨_, rfl, hS.below hb1, ?_⟩; replace hS := hS.below hb1; replace h0 := below_look hb1 h0; replace i1 := i1.below hb1; replace hb := hb.trans (hb1.mono hb.size); clear hb1; try simp only [put_lit, List.set_cons_zero, List.set_cons_succ]
  rw [← HC.out]
  refine ha_k (i := 6) rfl (by kernel_rfl) (by kernel_rfl) (by kernel_rfl) (fun _ _ _ _ h => h) hS rfl (fun K hK => ?_); go_simp; refine hK _ ?_; clear hK K; try simp only [put_lit, List.set_cons_zero, List.set_cons_succ]
  refine wpAnyH_done (by kernel_rfl) ?_ _
  go_wp2_with fail
  exact bodyPost_ret (results_tmp2 rfl _ _ _) rfl ⟨rfl, hb⟩
theorem or64 {x y : Nat} (hx : x ≤ 1000000000) (hy : y < 4294967296) : bits .or .i64 ((x : Int) * 4294967296) (y : Int) = (x : Int) * 4294967296 + (y : Int) :=
  bits_join .i64 63 (by decide) (fun n h0 h1 => IntWalk.i64_in n ⟨by omega, by omega⟩) 32 _ _ (by omega) (by omega) (by omega) (by omega) (by omega) (by omega)
set_option maxHeartbeats 1000000 in
set_option maxRecDepth 100000 in
theorem smallI_under (z most : Int) (A : Option Addr) (c : Nat) (w : World) (hm0 : 0 ≤ most) (hm : most ≤ 1000000000000000000) (hI : IvAt w z A c) (nz : nl z.natAbs ≤ 400) (ho : ¬ most.natAbs < z.natAbs) :
    Calls Try.prog 117 #[.agg (iv z A c), .int .i64 most] w fun e w' => e = .returned (.tuple #[.int .i64 z, .bool true]) ∧ Below w.heap.size w w' := by
  obtain ⟨C, hC⟩ : ∃ C, C = cmpN z.natAbs most.natAbs := ⟨_, rfl⟩
  have hpos : ¬ 0 < C := by rw [hC, cmpN_pos]; exact ho
  have HC := Lib.hid hC
  have HZ := Lib.hid (show z.natAbs ≤ 1000000000000000000 by omega)
  clear hC ho
  have HI := Lib.hid hI
  have HN := Lib.hid nz
  clear hI nz
  go_enter Try.func117, Try.ntmps117
  go_upto_region 1 with (fail)
  refine wp_world (fun W => W.heap[w.heap.size]? = some (.cells (iv z A c) 84 (0, 0)) ∧ Below w.heap.size w W) ⟨ha_new rfl, (Below.refl _ _).alloc (Nat.le_refl _) _⟩ ?_
  rintro W ⟨h0, hb⟩
  have a1 := iv1 h0
  have i1 := HI.out.below hb.drew
  replace hb := hb.drew
  refine wp_region_held_drew (S := Kept [] W) mixed (Kept.drew [] W) (fun hS => ?_)
  refine ha_k (i := 0) rfl (by kernel_rfl) (by kernel_rfl) (by kernel_rfl) (fun _ _ _ _ h => h) hS rfl (fun K hK => ?_); go_simp; refine hK _ ?_; clear hK K; try simp only [put_lit, List.set_cons_zero, List.set_cons_succ]
  refine ha_val (i := 1) rfl (by kernel_rfl) (by kernel_rfl) (by kernel_rfl) (fun _ _ _ h => h) hS rfl (fun w' hw' => ex_one rfl (one82 (hw'.cell a1 (by simp <;> omega)))) ?_; try simp only [put_lit, List.set_cons_zero, List.set_cons_succ]
  refine ha_k (i := 2) rfl (by kernel_rfl) (by kernel_rfl) (by kernel_rfl) (fun _ _ _ _ h => h) hS rfl (fun K hK => ?_); go_simp; refine hK _ ?_; clear hK K; try simp only [put_lit, List.set_cons_zero, List.set_cons_succ]
  refine ha_call (i := 3) (by kernel_rfl) rfl rfl (fun K hK => ?_); go_simp; refine ⟨_, _, ⟨rfl, rfl⟩, hK _ _ ⟨_, Of_any most (by omega) (by omega) _, ?_⟩⟩; clear hK K; rintro e w2 ⟨A2, c2, rfl, i2, hb1⟩; refine ⟨_, rfl, hS.below hb1, ?_⟩; replace hS := hS.below hb1; replace h0 := below_look hb1 h0; replace i1 := i1.below hb1; replace hb := hb.trans (hb1.mono hb.size); clear hb1; try simp only [put_lit, List.set_cons_zero, List.set_cons_succ]
  refine ha_val (i := 4) rfl (by kernel_rfl) (by kernel_rfl) (by kernel_rfl) (fun _ _ _ h => h) hS rfl (fun w' _ => ex_fld84 _ rfl rfl w') ?_; try simp only [put_lit, List.set_cons_zero, List.set_cons_succ]
  refine ha_call (i := 5) (by kernel_rfl) rfl rfl (fun K hK => ?_); go_simp; refine ⟨_, _, ⟨rfl, rfl⟩, hK _ _ ⟨_, compareN_any _ _ _ _ z.natAbs most.natAbs _ i1.2 i2.2 (by have := HN.out; omega), ?_⟩⟩; clear hK K; rintro e w3 ⟨rfl, hb1⟩; refine ⟨_, rfl, hS.below hb1, ?_⟩; replace hS := hS.below hb1; replace h0 := below_look hb1 h0; replace i1 := i1.below hb1; replace hb := hb.trans (hb1.mono hb.size); clear hb1; try simp only [put_lit, List.set_cons_zero, List.set_cons_succ]
  rw [← HC.out]
  refine ha_k (i := 6) rfl (by kernel_rfl) (by kernel_rfl) (by kernel_rfl) (fun _ _ _ _ h => h) hS rfl (fun K hK => ?_); go_simp; refine hK _ ?_; clear hK K; try simp only [put_lit, List.set_cons_zero, List.set_cons_succ]
  refine wpAnyH_done (by kernel_rfl) ?_ _
  clear hpos
  have a1 := iv1 h0
  have hnl := HN.out
  go_wp2_with fail
  clear a1
  go_loopw [6, 7] (fun n i wr => ∃ k : Nat, k ≤ nl z.natAbs ∧ i = .int .i64 ((k : Int) - 1) ∧ n = .int .i64 ((z.natAbs / B ^ k : Nat) : Int) ∧ wr.heap[w.heap.size]? = some (.cells (iv z A c) 84 (0, 0)) ∧ IvAt wr z A c ∧ Below w.heap.size w wr) (fun _ i _ => (intOf i + 1).toNat)
  case atStart =>
    refine ⟨nl z.natAbs, Nat.le_refl _, ?_, ?_, h0, i1, hb⟩
    · first | rfl | go_num
    · rw [Nat.div_eq_of_lt (nl_spec _)]; rfl
  case round =>
    clear h0 i1 hb
    obtain ⟨k, hk, rfl, rfl, h0, i1, hb⟩ := hrel
    rcases k with _ | j
    · have a0 := iv0 h0
      have hz : ((z.natAbs / B ^ 0 : Nat) : Int) = (z.natAbs : Int) := by simp
      rw [hz]
      clear hz
      obtain ⟨N, hN⟩ : ∃ N, N = z.natAbs := ⟨_, rfl⟩
      have hNb := HZ.out
      rw [← hN] at hNb ⊢
      have HNN := Lib.hid hN
      clear hN
      cases hs : ng z
      · have e : (N : Int) = z := by have := HNN.out; rw [ng_def] at hs; simp at hs; omega
        rw [hs] at a0
        have E := Lib.hid e
        clear e hs
        go_wp2_with fail
        exact bodyPost_ret (results_tmp2 rfl _ _ _) rfl ⟨by rw [← E.out]; rfl, hb⟩
      · have e : -(N : Int) = z := by have := HNN.out; rw [ng_def] at hs; simp at hs; omega
        rw [hs] at a0
        have E := Lib.hid e
        clear e hs
        go_wp2_with fail
        exact bodyPost_ret (results_tmp2 rfl _ _ _) rfl ⟨by rw [← E.out]; rfl, hb⟩
    · have ds := Lm.div_split z.natAbs j
      have hle : z.natAbs / B ^ j ≤ 1000000000000000000 := Nat.le_trans (Nat.div_le_self _ _) HZ.out
      have hy := lm_32 z.natAbs j
      obtain ⟨q, hq⟩ : ∃ q, q = z.natAbs / B ^ (j + 1) := ⟨_, rfl⟩
      obtain ⟨y, hyy⟩ : ∃ y, y = lm z.natAbs j := ⟨_, rfl⟩
      rw [← hq, ← hyy] at ds
      rw [← hyy] at hy
      have hqb : q ≤ 1000000000 := by rw [ds, B_eq] at hle; omega
      obtain ⟨g, rfl, hg, ca⟩ := i1.2.at_ (k := j) (by omega)
      rw [← hyy] at ca
      rw [show ((j + 1 : Nat) : Int) - 1 = (j : Int) by omega, ← hq]
      have HDS := Lib.hid ds
      have HK := Lib.hid hk
      have a1 := iv1 h0
      obtain ⟨n, hn⟩ : ∃ n, n = nl z.natAbs := ⟨_, rfl⟩
      rw [← hn] at a1 hk HK hnl
      have hjn : j < n := by omega
      have HNN := Lib.hid hn
      have w1 : IntKind.i64.wrap ((q : Int) * 4294967296) = (q : Int) * 4294967296 := IntWalk.i64_in _ (by omega)
      have w2 := or64 hqb hy
      clear hq hyy ds hle hn
      go_wp2_with fail
      go_roundw
      case rel => exact ⟨j, by rw [← HNN.out]; omega, by go_num, by rw [HDS.out, B_eq]; go_num, h0, i1, hb⟩
      case measure => simp [intOf]
theorem smallI_any (z most : Int) (A : Option Addr) (c : Nat) (w : World) (hm0 : 0 ≤ most) (hm : most ≤ 1000000000000000000) (hI : IvAt w z A c) (nz : nl z.natAbs ≤ 400) :
    Calls Try.prog 117 #[.agg (iv z A c), .int .i64 most] w fun e w' => e = .returned (.tuple #[.int .i64 (if most.natAbs < z.natAbs then 0 else z), .bool (!decide (most.natAbs < z.natAbs))]) ∧ Below w.heap.size w w' := by
  by_cases h : most.natAbs < z.natAbs
  · rw [if_pos h, decide_eq_true h]; exact smallI_over z most A c w hm0 hm hI nz h
  · rw [if_neg h, decide_eq_false h]; exact smallI_under z most A c w hm0 hm hI nz h
set_option maxHeartbeats 1000000 in
theorem decimal_any (z scale : Int) (A : Option Addr) (c : Nat) (w : World) (hI : IvAt w z A c) (nz : nl z.natAbs ≤ 400) (u k e : Int) (hu : Hid (u = madeU z)) (hk : Hid (k = madeK z scale)) (he : Hid (e = madeE z)) :
    Calls Try.prog 80 #[.agg (iv z A c), .int .i64 scale] w fun e' w' => e' = .returned (.tuple #[.agg (dc u k), .int .i64 e]) ∧ Below w.heap.size w w' := by
  rw [hu.out, hk.out, he.out]
  clear hu hk he
  unfold madeU madeK madeE
  have HI := Lib.hid hI
  have HN := Lib.hid nz
  clear hI nz
  by_cases h : 100000000000000000 < z.natAbs
  · simp only [if_pos h]
    have H := Lib.hid h
    clear h
    go_enter Try.func80, Try.ntmps80
    go_upto_region 1 with (fail)
    refine wp_world (fun W => W.heap[w.heap.size]? = some (.cells (iv z A c) 84 (0, 0)) ∧ W.heap[w.heap.size + 1]? = some (.cells (dc 0 0) 33 (0, 0)) ∧ Below w.heap.size w W) ⟨ha_old (ha_new rfl), ha_new (by simp), ((Below.refl _ _).alloc (Nat.le_refl _) _).alloc (by simp) _⟩ ?_
    rintro W ⟨h0, h1, hb⟩
    apply wp_region_lit
    ((with_reducible apply wl_rowG); exact rfl; exact rfl; exact rowIv (by with_reducible assumption))
    refine wl_ck rfl (fun K hK => ?_); go_simp; refine ⟨_, _, ⟨rfl, rfl⟩, hK _ _ ⟨_, smallI_over z _ A c _ (by decide) (by decide) (HI.out.below hb) HN.out H.out, ?_⟩⟩; clear hK K; rintro e w1 ⟨rfl, hb1⟩; refine ⟨_, rfl, ?_⟩; simp only [put_lit, List.set_cons_zero, List.set_cons_succ]
    replace h1 := below_look hb1 h1; replace hb := hb.trans (hb1.mono hb.size); clear hb1
    have c0 := dc0 h1
    have c1 := dc1 h1
    have f0 : w1.frozen? ⟨w.heap.size + 1, 0, none⟩ = false := frozen_of_row _ _ _ _ _ h1
    have f1 : w1.frozen? ⟨w.heap.size + 1, 1, none⟩ = false := frozen_of_row _ _ _ _ _ h1
    go_wp2_with fail
    refine bodyPost_ret (res_decErr rfl _ _ (w.heap.size + 1) rfl ((hs_new (hs_new h1)).trans rfl)) rfl ⟨?_, (hb.setCell (by simp) _).setCell (by simp) _⟩
    rfl
  · simp only [if_neg h]
    have H := Lib.hid h
    clear h
    go_enter Try.func80, Try.ntmps80
    go_upto_region 1 with (fail)
    refine wp_world (fun W => W.heap[w.heap.size]? = some (.cells (iv z A c) 84 (0, 0)) ∧ W.heap[w.heap.size + 1]? = some (.cells (dc 0 0) 33 (0, 0)) ∧ Below w.heap.size w W) ⟨ha_old (ha_new rfl), ha_new (by simp), ((Below.refl _ _).alloc (Nat.le_refl _) _).alloc (by simp) _⟩ ?_
    rintro W ⟨h0, h1, hb⟩
    apply wp_region_lit
    ((with_reducible apply wl_rowG); exact rfl; exact rfl; exact rowIv (by with_reducible assumption))
    refine wl_ck rfl (fun K hK => ?_); go_simp; refine ⟨_, _, ⟨rfl, rfl⟩, hK _ _ ⟨_, smallI_under z _ A c _ (by decide) (by decide) (HI.out.below hb) HN.out H.out, ?_⟩⟩; clear hK K; rintro e w1 ⟨rfl, hb1⟩; refine ⟨_, rfl, ?_⟩; simp only [put_lit, List.set_cons_zero, List.set_cons_succ]
    replace h1 := below_look hb1 h1; replace hb := hb.trans (hb1.mono hb.size); clear hb1
    have c0 := dc0 h1
    have c1 := dc1 h1
    have f0 : w1.frozen? ⟨w.heap.size + 1, 0, none⟩ = false := frozen_of_row _ _ _ _ _ h1
    have f1 : w1.frozen? ⟨w.heap.size + 1, 1, none⟩ = false := frozen_of_row _ _ _ _ _ h1
    go_wp2_with fail
    refine bodyPost_ret (res_decErr rfl _ _ (w.heap.size + 1) rfl ((hs_new (hs_new h1)).trans rfl)) rfl ⟨?_, (hb.setCell (by simp) _).setCell (by simp) _⟩
    rfl
theorem TensT_any (x : Int) (h0 : 0 ≤ x) (h : x ≤ 36) (w : World) :
    Calls Try.prog 79 #[.int .i64 x] w fun e w' => ∃ A2 c2, e = .returned (.agg (iv (t10 x) A2 c2)) ∧ IvAt w' (t10 x) A2 c2 ∧ Below w.heap.size w w' := by
  obtain ⟨n, rfl⟩ := Int.eq_ofNat_of_zero_le h0
  exact TensI_any n (by omega) w
theorem nl_t10 {x : Int} (h : x ≤ 36) : nl (t10 x).natAbs ≤ 4 := by rw [t10_abs]; exact nl_p10 (by omega)
theorem nl_i64 {u : Int} (h1 : -9223372036854775808 ≤ u) (h2 : u ≤ 9223372036854775807) : nl u.natAbs ≤ 2 := nl_le _ _ (lim64 (by omega))
set_option maxHeartbeats 1000000 in
theorem unitsI_any (u k scale : Int) (HU : Hid (UBd u k scale)) (w : World) :
    Calls Try.prog 88 #[.agg (dc u k), .int .i64 scale] w fun e w' => ∃ A2 c2, e = .returned (.agg (iv (u * t10 (scale - k)) A2 c2)) ∧ IvAt w' (u * t10 (scale - k)) A2 c2 ∧ Below w.heap.size w w' := by
  have i1 : IntKind.i64.wrap (scale - k) = scale - k := IntWalk.i64_in _ (by obtain ⟨_, _, _, _, _⟩ := HU.out; omega)
  go_enter Try.func88, Try.ntmps88
  go_upto_region 1 with (fail)
  refine wp_world (fun W => W.heap[w.heap.size]? = some (.cells (dc u k) 33 (0, 0)) ∧ W.heap[w.heap.size + 1]? = some (.cells (iv 0 none 0) 84 (0, 0)) ∧ Below w.heap.size w W) ⟨ha_old (ha_new rfl), by rw [iv_zero]; exact ha_new (by simp), ((Below.refl _ _).alloc (Nat.le_refl _) _).alloc (by simp) _⟩ ?_
  rintro W ⟨h0, h1, hb⟩
  have a0 := dc0 h0
  have a1 := dc1 h0
  replace hb := hb.drew
  refine wp_region_held_drew (S := Kept [w.heap.size + 1] W) mixed (Kept.drew [w.heap.size + 1] W) (fun hS => ?_)
  refine ha_k (i := 0) rfl (by kernel_rfl) (by kernel_rfl) (by kernel_rfl) (fun _ _ _ _ h => h) hS rfl (fun K hK => ?_); go_simp; refine hK _ ?_; clear hK K; try simp only [put_lit, List.set_cons_zero, List.set_cons_succ]
  refine ha_val (i := 1) rfl (by kernel_rfl) (by kernel_rfl) (by kernel_rfl) (fun _ _ _ h => h) hS rfl (fun w' hw' => ex_one rfl (one3 (hw'.cell a0 (by simp <;> omega)))) ?_; try simp only [put_lit, List.set_cons_zero, List.set_cons_succ]
  refine ha_k (i := 3) rfl (by kernel_rfl) (by kernel_rfl) (by kernel_rfl) (fun _ _ _ _ h => h) hS rfl (fun K hK => ?_); go_simp; refine hK _ ?_; clear hK K; try simp only [put_lit, List.set_cons_zero, List.set_cons_succ]
  refine ha_k (i := 4) rfl (by kernel_rfl) (by kernel_rfl) (by kernel_rfl) (fun _ _ _ _ h => h) hS rfl (fun K hK => ?_); go_simp; refine hK _ ?_; clear hK K; try simp only [put_lit, List.set_cons_zero, List.set_cons_succ]
  refine ha_val (i := 5) rfl (by kernel_rfl) (by kernel_rfl) (by kernel_rfl) (fun _ _ _ h => h) hS rfl (fun w' hw' => ex_one rfl (one3 (hw'.cell a1 (by simp <;> omega)))) ?_; try simp only [put_lit, List.set_cons_zero, List.set_cons_succ]
  refine ha_k (i := 6) rfl (by kernel_rfl) (by kernel_rfl) (by kernel_rfl) (fun _ _ _ _ h => h) hS rfl (fun K hK => ?_); go_simp; refine hK _ ?_; clear hK K; try simp only [put_lit, List.set_cons_zero, List.set_cons_succ]
  try rw [i1]
  refine ha_call (i := 2) (by kernel_rfl) rfl rfl (fun K hK => ?_); go_simp; refine ⟨_, _, ⟨rfl, rfl⟩, hK _ _ ⟨_, Of_any u (by have := HU.out.u1; omega) (by have := HU.out.u2; omega) _, ?_⟩⟩; clear hK K; rintro e w1 ⟨A1, c1, rfl, j1, hb1⟩; refine ⟨_, rfl, hS.below hb1, ?_⟩; replace hS := hS.below hb1; replace h1 := below_look hb1 h1; replace hb := hb.trans (hb1.mono hb.size); clear hb1; try simp only [put_lit, List.set_cons_zero, List.set_cons_succ]
  refine ha_call (i := 7) (by kernel_rfl) rfl rfl (fun K hK => ?_); go_simp; refine ⟨_, _, ⟨rfl, rfl⟩, hK _ _ ⟨_, TensT_any (scale - k) (by have := HU.out.ks; omega) (by have := HU.out.s9; have := HU.out.k0; omega) _, ?_⟩⟩; clear hK K; rintro e w2 ⟨A2, c2, rfl, j2, hb1⟩; refine ⟨_, rfl, hS.below hb1, ?_⟩; replace hS := hS.below hb1; replace h1 := below_look hb1 h1; replace j1 := j1.below hb1; replace hb := hb.trans (hb1.mono hb.size); clear hb1; try simp only [put_lit, List.set_cons_zero, List.set_cons_succ]
  refine ha_call (i := 8) (by kernel_rfl) rfl rfl (fun K hK => ?_); go_simp; refine ⟨_, _, ⟨rfl, rfl⟩, hK _ _ ⟨_, TimesI_any _ _ _ _ _ _ _ j1 j2 (by have := nl_i64 (u := u) (by have := HU.out.u1; omega) (by have := HU.out.u2; omega); omega) (by have := nl_t10 (x := scale - k) (by have := HU.out.s9; have := HU.out.k0; omega); omega), ?_⟩⟩; clear hK K; rintro e w3 ⟨A3, c3, rfl, j3, hb1⟩; refine ⟨_, rfl, hS.below hb1, ?_⟩; replace hS := hS.below hb1; replace h1 := below_look hb1 h1; replace hb := hb.trans (hb1.mono hb.size); clear hb1; try simp only [put_lit, List.set_cons_zero, List.set_cons_succ]
  refine ha_store (i := 9) (by kernel_rfl) rfl rfl 84 _ _ rfl _ (iv (u * t10 (scale - k)) A3 c3) rfl rfl 84 _ h1 info84 rfl (iv_one _ _ _) (hS.setRow (by simp) _) (fun hS => ?_); try simp only [put_lit, List.set_cons_zero, List.set_cons_succ]
  refine wpAnyH_done (by kernel_rfl) ?_ _
  go_wp2_with fail
  exact bodyPost_ret (res_iv rfl _ _ (w.heap.size + 1) rfl (hr_new h1)) rfl ⟨A3, c3, rfl, j3.put h1 _, below_setRow hb (by omega) _⟩
set_option maxHeartbeats 1000000 in
theorem ValidI_any (u k : Int) (R : Bool) (HR : Hid (R = validD u k)) (w : World) :
    Calls Try.prog 86 #[.agg (dc u k)] w fun e w' => e = .returned (.bool R) ∧ Below w.heap.size w w' := by
  go_enter Try.func86, Try.ntmps86
  go_upto_region 1 with (fail)
  refine wp_world (fun W => W.heap[w.heap.size]? = some (.cells (dc u k) 33 (0, 0)) ∧ Below w.heap.size w W) ⟨ha_new rfl, ((Below.refl _ _).alloc (Nat.le_refl _) _)⟩ ?_
  rintro W ⟨h0, hb⟩
  have c0 := dc0 h0
  have c1 := dc1 h0
  go_wp2_with fail
  all_goals
    go_ret
    refine ⟨congrArg (fun b => Ending.returned (.bool b)) (?_ : _ = R), hb⟩
    rw [HR.out]
    clear HR h0 hb c0 c1
    unfold validD
    first
    | (simp [*]; done)
    | (simp [*]; omega)
end Go.Proofs.Ytclainfdeghgnaa

namespace Go.Proofs.Ytclainfdeghgnaa
open Go.RowKit Go.Proofs.Ytclainfdeghgnaa.Nm Go.Proofs.Ytclainfdeghgnaa.Lm
theorem ValidI_o (u k : Int) (w : World) : Calls Try.prog 86 #[.agg (dc u k)] w fun e w' => e = .returned (.bool (validD u k)) ∧ Below w.heap.size w w' := ValidI_any u k _ (Lib.hid rfl) w
theorem allD_two {u1 k1 u2 k2 : Int} : allD [(u1, k1), (u2, k2)] = (validD u1 k1 && validD u2 k2) := by unfold allD; simp
set_option maxHeartbeats 1000000 in
theorem AddI_bad1 (u1 k1 u2 k2 : Int) (H1 : Hid (false = validD u1 k1)) (w : World) :
    Calls Try.prog 43 #[.agg (dc u1 k1), .agg (dc u2 k2)] w fun e' w' => e' = .returned (.tuple #[.agg (dc 0 0), .int .i64 4]) ∧ Below w.heap.size w w' := by
  go_enter Try.func43, Try.ntmps43
  go_upto_region 1 with (fail)
  refine wp_world (fun W => W.heap[w.heap.size]? = some (.cells (dc u1 k1) 33 (0, 0)) ∧ W.heap[w.heap.size + 1]? = some (.cells (dc u2 k2) 33 (0, 0)) ∧ W.heap[w.heap.size + 1 + 1]? = some (.cells (dc 0 0) 33 (0, 0)) ∧ Below w.heap.size w W) ⟨ha_old (ha_old (ha_new rfl)), ha_old (ha_new (by simp)), ha_new (by simp), (((Below.refl _ _).alloc (Nat.le_refl _) _).alloc (by simp) _).alloc (by simp; omega) _⟩ ?_
  rintro W ⟨h0, h1, h2, hb⟩
  apply wp_region_lit
  ((with_reducible apply wl_rowG); exact rfl; exact rfl; exact rowDc h0)
  refine wl_ck rfl (fun K hK => ?_); go_simp; refine ⟨_, _, ⟨rfl, rfl⟩, hK _ _ ⟨_, ValidI_any u1 k1 false H1 _, ?_⟩⟩; clear hK K; rintro e w1 ⟨rfl, hb1⟩; refine ⟨_, rfl, ?_⟩; simp only [put_lit, List.set_cons_zero, List.set_cons_succ]
  replace h0 := below_look hb1 h0; replace h1 := below_look hb1 h1; replace h2 := below_look hb1 h2; replace hb := hb.trans (hb1.mono hb.size); clear hb1
  have c0 := dc0 h2
  have c1 := dc1 h2
  have f0 : w1.frozen? ⟨w.heap.size + 1 + 1, 0, none⟩ = false := frozen_of_row _ _ _ _ _ h2
  have f1 : w1.frozen? ⟨w.heap.size + 1 + 1, 1, none⟩ = false := frozen_of_row _ _ _ _ _ h2
  go_wp2_with fail
  exact bodyPost_ret (res_decErr rfl _ _ (w.heap.size + 1 + 1) rfl ((hs_new (hs_new h2)).trans rfl)) rfl ⟨rfl, (hb.setCell (by simp; omega) _).setCell (by simp; omega) _⟩
set_option maxHeartbeats 1000000 in
theorem AddI_bad2 (u1 k1 u2 k2 : Int) (H1 : Hid (true = validD u1 k1)) (H2 : Hid (false = validD u2 k2)) (w : World) :
    Calls Try.prog 43 #[.agg (dc u1 k1), .agg (dc u2 k2)] w fun e' w' => e' = .returned (.tuple #[.agg (dc 0 0), .int .i64 4]) ∧ Below w.heap.size w w' := by
  go_enter Try.func43, Try.ntmps43
  go_upto_region 1 with (fail)
  refine wp_world (fun W => W.heap[w.heap.size]? = some (.cells (dc u1 k1) 33 (0, 0)) ∧ W.heap[w.heap.size + 1]? = some (.cells (dc u2 k2) 33 (0, 0)) ∧ W.heap[w.heap.size + 1 + 1]? = some (.cells (dc 0 0) 33 (0, 0)) ∧ Below w.heap.size w W) ⟨ha_old (ha_old (ha_new rfl)), ha_old (ha_new (by simp)), ha_new (by simp), (((Below.refl _ _).alloc (Nat.le_refl _) _).alloc (by simp) _).alloc (by simp; omega) _⟩ ?_
  rintro W ⟨h0, h1, h2, hb⟩
  apply wp_region_lit
  ((with_reducible apply wl_rowG); exact rfl; exact rfl; exact rowDc h0)
  refine wl_ck rfl (fun K hK => ?_); go_simp; refine ⟨_, _, ⟨rfl, rfl⟩, hK _ _ ⟨_, ValidI_any u1 k1 true H1 _, ?_⟩⟩; clear hK K; rintro e w1 ⟨rfl, hb1⟩; refine ⟨_, rfl, ?_⟩; simp only [put_lit, List.set_cons_zero, List.set_cons_succ]
  replace h0 := below_look hb1 h0; replace h1 := below_look hb1 h1; replace h2 := below_look hb1 h2; replace hb := hb.trans (hb1.mono hb.size); clear hb1
  refine wl_k rfl (fun K hK => ?_); go_simp; refine hK _ ?_; clear hK K
  refine wl_k rfl (fun K hK => ?_); go_simp; refine hK _ ?_; clear hK K
  ((with_reducible apply wl_rowG); exact rfl; exact rfl; exact rowDc h1)
  refine wl_ck rfl (fun K hK => ?_); go_simp; refine ⟨_, _, ⟨rfl, rfl⟩, hK _ _ ⟨_, ValidI_any u2 k2 false H2 _, ?_⟩⟩; clear hK K; rintro e w2 ⟨rfl, hb1⟩; refine ⟨_, rfl, ?_⟩; simp only [put_lit, List.set_cons_zero, List.set_cons_succ]
  replace h0 := below_look hb1 h0; replace h1 := below_look hb1 h1; replace h2 := below_look hb1 h2; replace hb := hb.trans (hb1.mono hb.size); clear hb1
  have c0 := dc0 h2
  have c1 := dc1 h2
  have f0 : w2.frozen? ⟨w.heap.size + 1 + 1, 0, none⟩ = false := frozen_of_row _ _ _ _ _ h2
  have f1 : w2.frozen? ⟨w.heap.size + 1 + 1, 1, none⟩ = false := frozen_of_row _ _ _ _ _ h2
  go_wp2_with fail
  exact bodyPost_ret (res_decErr rfl _ _ (w.heap.size + 1 + 1) rfl ((hs_new (hs_new h2)).trans rfl)) rfl ⟨rfl, (hb.setCell (by simp; omega) _).setCell (by simp; omega) _⟩
set_option maxHeartbeats 1000000 in
theorem SubI_bad1 (u1 k1 u2 k2 : Int) (H1 : Hid (false = validD u1 k1)) (w : World) :
    Calls Try.prog 45 #[.agg (dc u1 k1), .agg (dc u2 k2)] w fun e' w' => e' = .returned (.tuple #[.agg (dc 0 0), .int .i64 4]) ∧ Below w.heap.size w w' := by
  go_enter Try.func45, Try.ntmps45
  go_upto_region 1 with (fail)
  refine wp_world (fun W => W.heap[w.heap.size]? = some (.cells (dc u1 k1) 33 (0, 0)) ∧ W.heap[w.heap.size + 1]? = some (.cells (dc u2 k2) 33 (0, 0)) ∧ W.heap[w.heap.size + 1 + 1]? = some (.cells (dc 0 0) 33 (0, 0)) ∧ Below w.heap.size w W) ⟨ha_old (ha_old (ha_new rfl)), ha_old (ha_new (by simp)), ha_new (by simp), (((Below.refl _ _).alloc (Nat.le_refl _) _).alloc (by simp) _).alloc (by simp; omega) _⟩ ?_
  rintro W ⟨h0, h1, h2, hb⟩
  apply wp_region_lit
  ((with_reducible apply wl_rowG); exact rfl; exact rfl; exact rowDc h0)
  refine wl_ck rfl (fun K hK => ?_); go_simp; refine ⟨_, _, ⟨rfl, rfl⟩, hK _ _ ⟨_, ValidI_any u1 k1 false H1 _, ?_⟩⟩; clear hK K; rintro e w1 ⟨rfl, hb1⟩; refine ⟨_, rfl, ?_⟩; simp only [put_lit, List.set_cons_zero, List.set_cons_succ]
  replace h0 := below_look hb1 h0; replace h1 := below_look hb1 h1; replace h2 := below_look hb1 h2; replace hb := hb.trans (hb1.mono hb.size); clear hb1
  have c0 := dc0 h2
  have c1 := dc1 h2
  have f0 : w1.frozen? ⟨w.heap.size + 1 + 1, 0, none⟩ = false := frozen_of_row _ _ _ _ _ h2
  have f1 : w1.frozen? ⟨w.heap.size + 1 + 1, 1, none⟩ = false := frozen_of_row _ _ _ _ _ h2
  go_wp2_with fail
  exact bodyPost_ret (res_decErr rfl _ _ (w.heap.size + 1 + 1) rfl ((hs_new (hs_new h2)).trans rfl)) rfl ⟨rfl, (hb.setCell (by simp; omega) _).setCell (by simp; omega) _⟩
set_option maxHeartbeats 1000000 in
theorem SubI_bad2 (u1 k1 u2 k2 : Int) (H1 : Hid (true = validD u1 k1)) (H2 : Hid (false = validD u2 k2)) (w : World) :
    Calls Try.prog 45 #[.agg (dc u1 k1), .agg (dc u2 k2)] w fun e' w' => e' = .returned (.tuple #[.agg (dc 0 0), .int .i64 4]) ∧ Below w.heap.size w w' := by
  go_enter Try.func45, Try.ntmps45
  go_upto_region 1 with (fail)
  refine wp_world (fun W => W.heap[w.heap.size]? = some (.cells (dc u1 k1) 33 (0, 0)) ∧ W.heap[w.heap.size + 1]? = some (.cells (dc u2 k2) 33 (0, 0)) ∧ W.heap[w.heap.size + 1 + 1]? = some (.cells (dc 0 0) 33 (0, 0)) ∧ Below w.heap.size w W) ⟨ha_old (ha_old (ha_new rfl)), ha_old (ha_new (by simp)), ha_new (by simp), (((Below.refl _ _).alloc (Nat.le_refl _) _).alloc (by simp) _).alloc (by simp; omega) _⟩ ?_
  rintro W ⟨h0, h1, h2, hb⟩
  apply wp_region_lit
  ((with_reducible apply wl_rowG); exact rfl; exact rfl; exact rowDc h0)
  refine wl_ck rfl (fun K hK => ?_); go_simp; refine ⟨_, _, ⟨rfl, rfl⟩, hK _ _ ⟨_, ValidI_any u1 k1 true H1 _, ?_⟩⟩; clear hK K; rintro e w1 ⟨rfl, hb1⟩; refine ⟨_, rfl, ?_⟩; simp only [put_lit, List.set_cons_zero, List.set_cons_succ]
  replace h0 := below_look hb1 h0; replace h1 := below_look hb1 h1; replace h2 := below_look hb1 h2; replace hb := hb.trans (hb1.mono hb.size); clear hb1
  refine wl_k rfl (fun K hK => ?_); go_simp; refine hK _ ?_; clear hK K
  refine wl_k rfl (fun K hK => ?_); go_simp; refine hK _ ?_; clear hK K
  ((with_reducible apply wl_rowG); exact rfl; exact rfl; exact rowDc h1)
  refine wl_ck rfl (fun K hK => ?_); go_simp; refine ⟨_, _, ⟨rfl, rfl⟩, hK _ _ ⟨_, ValidI_any u2 k2 false H2 _, ?_⟩⟩; clear hK K; rintro e w2 ⟨rfl, hb1⟩; refine ⟨_, rfl, ?_⟩; simp only [put_lit, List.set_cons_zero, List.set_cons_succ]
  replace h0 := below_look hb1 h0; replace h1 := below_look hb1 h1; replace h2 := below_look hb1 h2; replace hb := hb.trans (hb1.mono hb.size); clear hb1
  have c0 := dc0 h2
  have c1 := dc1 h2
  have f0 : w2.frozen? ⟨w.heap.size + 1 + 1, 0, none⟩ = false := frozen_of_row _ _ _ _ _ h2
  have f1 : w2.frozen? ⟨w.heap.size + 1 + 1, 1, none⟩ = false := frozen_of_row _ _ _ _ _ h2
  go_wp2_with fail
  exact bodyPost_ret (res_decErr rfl _ _ (w.heap.size + 1 + 1) rfl ((hs_new (hs_new h2)).trans rfl)) rfl ⟨rfl, (hb.setCell (by simp; omega) _).setCell (by simp; omega) _⟩
theorem nl_26 {z : Int} (h : z.natAbs ≤ 100000000000000000000000000) : nl z.natAbs ≤ 3 := nl_le _ _ (Nat.lt_of_le_of_lt h (by decide))
theorem nl_27 {z : Int} (h : z.natAbs ≤ 200000000000000000000000000) : nl z.natAbs ≤ 3 := nl_le _ _ (Nat.lt_of_le_of_lt h (by decide))
set_option maxHeartbeats 1000000 in
theorem AddI_good (u1 k1 u2 k2 : Int) (H1 : Hid (true = validD u1 k1)) (H2 : Hid (true = validD u2 k2)) (x y s : Int) (hs : Hid (s = max k1 k2)) (HX : Hid (x = u1 * t10 (s - k1))) (HY : Hid (y = u2 * t10 (s - k2))) (u k e : Int) (hu : Hid (u = madeU (x + y))) (hk : Hid (k = madeK (x + y) s)) (he : Hid (e = madeE (x + y))) (w : World) :
    Calls Try.prog 43 #[.agg (dc u1 k1), .agg (dc u2 k2)] w fun e' w' => e' = .returned (.tuple #[.agg (dc u k), .int .i64 e]) ∧ Below w.heap.size w w' := by
  have hv : allD [(u1, k1), (u2, k2)] = true := by rw [allD_two, ← H1.out, ← H2.out]; rfl
  have B1 := Lib.hid (ubd1 hv)
  have B2 := Lib.hid (ubd2 hv)
  have NX := Lib.hid (show x.natAbs ≤ 100000000000000000000000000 by rw [HX.out, hs.out]; exact B1.out.m)
  have NY := Lib.hid (show y.natAbs ≤ 100000000000000000000000000 by rw [HY.out, hs.out]; exact B2.out.m)
  have NZ := Lib.hid (nl_27 (z := x + y) (by have := NX.out; have := NY.out; omega))
  clear hv
  go_enter Try.func43, Try.ntmps43
  go_upto_region 1 with (fail)
  refine wp_world (fun W => W.heap[w.heap.size]? = some (.cells (dc u1 k1) 33 (0, 0)) ∧ W.heap[w.heap.size + 1]? = some (.cells (dc u2 k2) 33 (0, 0)) ∧ W.heap[w.heap.size + 1 + 1]? = some (.cells (dc 0 0) 33 (0, 0)) ∧ Below w.heap.size w W) ⟨ha_old (ha_old (ha_new rfl)), ha_old (ha_new (by simp)), ha_new (by simp), (((Below.refl _ _).alloc (Nat.le_refl _) _).alloc (by simp) _).alloc (by simp; omega) _⟩ ?_
  rintro W ⟨h0, h1, h2, hb⟩
  apply wp_region_lit
  ((with_reducible apply wl_rowG); exact rfl; exact rfl; exact rowDc h0)
  refine wl_ck rfl (fun K hK => ?_); go_simp; refine ⟨_, _, ⟨rfl, rfl⟩, hK _ _ ⟨_, ValidI_any u1 k1 true H1 _, ?_⟩⟩; clear hK K; rintro e w1 ⟨rfl, hb1⟩; refine ⟨_, rfl, ?_⟩; simp only [put_lit, List.set_cons_zero, List.set_cons_succ]
  replace h0 := below_look hb1 h0; replace h1 := below_look hb1 h1; replace h2 := below_look hb1 h2; replace hb := hb.trans (hb1.mono hb.size); clear hb1
  refine wl_k rfl (fun K hK => ?_); go_simp; refine hK _ ?_; clear hK K
  refine wl_k rfl (fun K hK => ?_); go_simp; refine hK _ ?_; clear hK K
  ((with_reducible apply wl_rowG); exact rfl; exact rfl; exact rowDc h1)
  refine wl_ck rfl (fun K hK => ?_); go_simp; refine ⟨_, _, ⟨rfl, rfl⟩, hK _ _ ⟨_, ValidI_any u2 k2 true H2 _, ?_⟩⟩; clear hK K; rintro e w2 ⟨rfl, hb1⟩; refine ⟨_, rfl, ?_⟩; simp only [put_lit, List.set_cons_zero, List.set_cons_succ]
  replace h0 := below_look hb1 h0; replace h1 := below_look hb1 h1; replace h2 := below_look hb1 h2; replace hb := hb.trans (hb1.mono hb.size); clear hb1
  have a1 := dc1 h0
  have b1 := dc1 h1
  go_upto_region 4 with (fail)
  clear a1 b1
  replace hb := hb.drew
  rw [← hs.out]
  refine wp_region_held_drew (S := Kept [w.heap.size + 1 + 1] w2) mixed (Kept.drew [w.heap.size + 1 + 1] w2) (fun hS => ?_)
  refine ha_val (i := 0) rfl (by kernel_rfl) (by kernel_rfl) (by kernel_rfl) (fun _ _ _ h => h) hS rfl (fun w' hw' => ex_row rfl (rowDc (hw'.look h0 (by simp <;> omega)))) ?_; try simp only [put_lit, List.set_cons_zero, List.set_cons_succ]
  refine ha_k (i := 1) rfl (by kernel_rfl) (by kernel_rfl) (by kernel_rfl) (fun _ _ _ _ h => h) hS rfl (fun K hK => ?_); go_simp; refine hK _ ?_; clear hK K; try simp only [put_lit, List.set_cons_zero, List.set_cons_succ]
  refine ha_val (i := 3) rfl (by kernel_rfl) (by kernel_rfl) (by kernel_rfl) (fun _ _ _ h => h) hS rfl (fun w' hw' => ex_row rfl (rowDc (hw'.look h1 (by simp <;> omega)))) ?_; try simp only [put_lit, List.set_cons_zero, List.set_cons_succ]
  refine ha_k (i := 4) rfl (by kernel_rfl) (by kernel_rfl) (by kernel_rfl) (fun _ _ _ _ h => h) hS rfl (fun K hK => ?_); go_simp; refine hK _ ?_; clear hK K; try simp only [put_lit, List.set_cons_zero, List.set_cons_succ]
  refine ha_k (i := 7) rfl (by kernel_rfl) (by kernel_rfl) (by kernel_rfl) (fun _ _ _ _ h => h) hS rfl (fun K hK => ?_); go_simp; refine hK _ ?_; clear hK K; try simp only [put_lit, List.set_cons_zero, List.set_cons_succ]
  refine ha_call (i := 2) (by kernel_rfl) rfl rfl (fun K hK => ?_); go_simp; refine ⟨_, _, ⟨rfl, rfl⟩, hK _ _ ⟨_, unitsI_any u1 k1 s (Lib.hid (hs.out ▸ B1.out)) _, ?_⟩⟩; clear hK K; rintro e w3 ⟨A1, c1, rfl, j1, hb1⟩; refine ⟨_, rfl, hS.below hb1, ?_⟩; replace hS := hS.below hb1; replace h2 := below_look hb1 h2; replace hb := hb.trans (hb1.mono hb.size); clear hb1; rw [← HX.out] at j1 ⊢; try simp only [put_lit, List.set_cons_zero, List.set_cons_succ]
  refine ha_call (i := 5) (by kernel_rfl) rfl rfl (fun K hK => ?_); go_simp; refine ⟨_, _, ⟨rfl, rfl⟩, hK _ _ ⟨_, unitsI_any u2 k2 s (Lib.hid (hs.out ▸ B2.out)) _, ?_⟩⟩; clear hK K; rintro e w4 ⟨A2, c2, rfl, j2, hb1⟩; refine ⟨_, rfl, hS.below hb1, ?_⟩; replace hS := hS.below hb1; replace h2 := below_look hb1 h2; replace j1 := j1.below hb1; replace hb := hb.trans (hb1.mono hb.size); clear hb1; rw [← HY.out] at j2 ⊢; try simp only [put_lit, List.set_cons_zero, List.set_cons_succ]
  refine ha_call (i := 6) (by kernel_rfl) rfl rfl (fun K hK => ?_); go_simp; refine ⟨_, _, ⟨rfl, rfl⟩, hK _ _ ⟨_, Sum2_any _ _ _ _ _ _ _ j1 j2 (by have := nl_26 NX.out; omega) (by have := nl_26 NY.out; omega), ?_⟩⟩; clear hK K; rintro e w5 ⟨A3, c3, rfl, j3, hb1⟩; refine ⟨_, rfl, hS.below hb1, ?_⟩; replace hS := hS.below hb1; replace h2 := below_look hb1 h2; replace hb := hb.trans (hb1.mono hb.size); clear hb1; try simp only [put_lit, List.set_cons_zero, List.set_cons_succ]
  refine ha_call (i := 8) (by kernel_rfl) rfl rfl (fun K hK => ?_); go_simp; refine ⟨_, _, ⟨rfl, rfl⟩, hK _ _ ⟨_, decimal_any _ s _ _ _ j3 (by have := NZ.out; omega) u k e hu hk he, ?_⟩⟩; clear hK K; rintro e w6 ⟨rfl, hb1⟩; refine ⟨_, rfl, hS.below hb1, ?_⟩; replace hS := hS.below hb1; replace h2 := below_look hb1 h2; replace hb := hb.trans (hb1.mono hb.size); clear hb1; try simp only [put_lit, List.set_cons_zero, List.set_cons_succ]
  refine ha_k (i := 9) rfl (by kernel_rfl) (by kernel_rfl) (by kernel_rfl) (fun _ _ _ _ h => h) hS rfl (fun K hK => ?_); go_simp; refine hK _ ?_; clear hK K; try simp only [put_lit, List.set_cons_zero, List.set_cons_succ]
  refine ha_k (i := 10) rfl (by kernel_rfl) (by kernel_rfl) (by kernel_rfl) (fun _ _ _ _ h => h) hS rfl (fun K hK => ?_); go_simp; refine hK _ ?_; clear hK K; try simp only [put_lit, List.set_cons_zero, List.set_cons_succ]
  refine ha_store (i := 11) (by kernel_rfl) rfl rfl 33 _ _ rfl _ (dc (u) (k)) rfl rfl 33 _ h2 info33 rfl (by simp [dc, Value.oneCell']) (hS.setRow (by simp) _) (fun hS => ?_); try simp only [put_lit, List.set_cons_zero, List.set_cons_succ]
  refine ha_k (i := 12) rfl (by kernel_rfl) (by kernel_rfl) (by kernel_rfl) (fun _ _ _ _ h => h) hS rfl (fun K hK => ?_); go_simp; refine hK _ ?_; clear hK K; try simp only [put_lit, List.set_cons_zero, List.set_cons_succ]
  refine wpAnyH_done (by kernel_rfl) ?_ _
  go_wp2_with fail
  exact bodyPost_ret (res_decErr rfl _ _ (w.heap.size + 1 + 1) rfl (hr_new h2)) rfl ⟨rfl, below_setRow hb (by omega) _⟩
set_option maxHeartbeats 1000000 in
theorem SubI_good (u1 k1 u2 k2 : Int) (H1 : Hid (true = validD u1 k1)) (H2 : Hid (true = validD u2 k2)) (x y s : Int) (hs : Hid (s = max k1 k2)) (HX : Hid (x = u1 * t10 (s - k1))) (HY : Hid (y = u2 * t10 (s - k2))) (u k e : Int) (hu : Hid (u = madeU (x - y))) (hk : Hid (k = madeK (x - y) s)) (he : Hid (e = madeE (x - y))) (w : World) :
    Calls Try.prog 45 #[.agg (dc u1 k1), .agg (dc u2 k2)] w fun e' w' => e' = .returned (.tuple #[.agg (dc u k), .int .i64 e]) ∧ Below w.heap.size w w' := by
  have hv : allD [(u1, k1), (u2, k2)] = true := by rw [allD_two, ← H1.out, ← H2.out]; rfl
  have B1 := Lib.hid (ubd1 hv)
  have B2 := Lib.hid (ubd2 hv)
  have NX := Lib.hid (show x.natAbs ≤ 100000000000000000000000000 by rw [HX.out, hs.out]; exact B1.out.m)
  have NY := Lib.hid (show y.natAbs ≤ 100000000000000000000000000 by rw [HY.out, hs.out]; exact B2.out.m)
  have NZ := Lib.hid (nl_27 (z := x - y) (by have := NX.out; have := NY.out; omega))
  clear hv
  go_enter Try.func45, Try.ntmps45
  go_upto_region 1 with (fail)
  refine wp_world (fun W => W.heap[w.heap.size]? = some (.cells (dc u1 k1) 33 (0, 0)) ∧ W.heap[w.heap.size + 1]? = some (.cells (dc u2 k2) 33 (0, 0)) ∧ W.heap[w.heap.size + 1 + 1]? = some (.cells (dc 0 0) 33 (0, 0)) ∧ Below w.heap.size w W) ⟨ha_old (ha_old (ha_new rfl)), ha_old (ha_new (by simp)), ha_new (by simp), (((Below.refl _ _).alloc (Nat.le_refl _) _).alloc (by simp) _).alloc (by simp; omega) _⟩ ?_
  rintro W ⟨h0, h1, h2, hb⟩
  apply wp_region_lit
  ((with_reducible apply wl_rowG); exact rfl; exact rfl; exact rowDc h0)
  refine wl_ck rfl (fun K hK => ?_); go_simp; refine ⟨_, _, ⟨rfl, rfl⟩, hK _ _ ⟨_, ValidI_any u1 k1 true H1 _, ?_⟩⟩; clear hK K; rintro e w1 ⟨rfl, hb1⟩; refine ⟨_, rfl, ?_⟩; simp only [put_lit, List.set_cons_zero, List.set_cons_succ]
  replace h0 := below_look hb1 h0; replace h1 := below_look hb1 h1; replace h2 := below_look hb1 h2; replace hb := hb.trans (hb1.mono hb.size); clear hb1
  refine wl_k rfl (fun K hK => ?_); go_simp; refine hK _ ?_; clear hK K
  refine wl_k rfl (fun K hK => ?_); go_simp; refine hK _ ?_; clear hK K
  ((with_reducible apply wl_rowG); exact rfl; exact rfl; exact rowDc h1)
  refine wl_ck rfl (fun K hK => ?_); go_simp; refine ⟨_, _, ⟨rfl, rfl⟩, hK _ _ ⟨_, ValidI_any u2 k2 true H2 _, ?_⟩⟩; clear hK K; rintro e w2 ⟨rfl, hb1⟩; refine ⟨_, rfl, ?_⟩; simp only [put_lit, List.set_cons_zero, List.set_cons_succ]
  replace h0 := below_look hb1 h0; replace h1 := below_look hb1 h1; replace h2 := below_look hb1 h2; replace hb := hb.trans (hb1.mono hb.size); clear hb1
  have a1 := dc1 h0
  have b1 := dc1 h1
  go_upto_region 4 with (fail)
  clear a1 b1
  replace hb := hb.drew
  rw [← hs.out]
  refine wp_region_held_drew (S := Kept [w.heap.size + 1 + 1] w2) mixed (Kept.drew [w.heap.size + 1 + 1] w2) (fun hS => ?_)
  refine ha_val (i := 0) rfl (by kernel_rfl) (by kernel_rfl) (by kernel_rfl) (fun _ _ _ h => h) hS rfl (fun w' hw' => ex_row rfl (rowDc (hw'.look h0 (by simp <;> omega)))) ?_; try simp only [put_lit, List.set_cons_zero, List.set_cons_succ]
  refine ha_k (i := 1) rfl (by kernel_rfl) (by kernel_rfl) (by kernel_rfl) (fun _ _ _ _ h => h) hS rfl (fun K hK => ?_); go_simp; refine hK _ ?_; clear hK K; try simp only [put_lit, List.set_cons_zero, List.set_cons_succ]
  refine ha_val (i := 3) rfl (by kernel_rfl) (by kernel_rfl) (by kernel_rfl) (fun _ _ _ h => h) hS rfl (fun w' hw' => ex_row rfl (rowDc (hw'.look h1 (by simp <;> omega)))) ?_; try simp only [put_lit, List.set_cons_zero, List.set_cons_succ]
  refine ha_k (i := 4) rfl (by kernel_rfl) (by kernel_rfl) (by kernel_rfl) (fun _ _ _ _ h => h) hS rfl (fun K hK => ?_); go_simp; refine hK _ ?_; clear hK K; try simp only [put_lit, List.set_cons_zero, List.set_cons_succ]
  refine ha_k (i := 7) rfl (by kernel_rfl) (by kernel_rfl) (by kernel_rfl) (fun _ _ _ _ h => h) hS rfl (fun K hK => ?_); go_simp; refine hK _ ?_; clear hK K; try simp only [put_lit, List.set_cons_zero, List.set_cons_succ]
  refine ha_call (i := 2) (by kernel_rfl) rfl rfl (fun K hK => ?_); go_simp; refine ⟨_, _, ⟨rfl, rfl⟩, hK _ _ ⟨_, unitsI_any u1 k1 s (Lib.hid (hs.out ▸ B1.out)) _, ?_⟩⟩; clear hK K; rintro e w3 ⟨A1, c1, rfl, j1, hb1⟩; refine ⟨_, rfl, hS.below hb1, ?_⟩; replace hS := hS.below hb1; replace h2 := below_look hb1 h2; replace hb := hb.trans (hb1.mono hb.size); clear hb1; rw [← HX.out] at j1 ⊢; try simp only [put_lit, List.set_cons_zero, List.set_cons_succ]
  refine ha_call (i := 5) (by kernel_rfl) rfl rfl (fun K hK => ?_); go_simp; refine ⟨_, _, ⟨rfl, rfl⟩, hK _ _ ⟨_, unitsI_any u2 k2 s (Lib.hid (hs.out ▸ B2.out)) _, ?_⟩⟩; clear hK K; rintro e w4 ⟨A2, c2, rfl, j2, hb1⟩; refine ⟨_, rfl, hS.below hb1, ?_⟩; replace hS := hS.below hb1; replace h2 := below_look hb1 h2; replace j1 := j1.below hb1; replace hb := hb.trans (hb1.mono hb.size); clear hb1; rw [← HY.out] at j2 ⊢; try simp only [put_lit, List.set_cons_zero, List.set_cons_succ]
  refine ha_call (i := 6) (by kernel_rfl) rfl rfl (fun K hK => ?_); go_simp; refine ⟨_, _, ⟨rfl, rfl⟩, hK _ _ ⟨_, MinusI_any _ _ _ _ _ _ _ j1 j2 (by have := nl_26 NX.out; omega) (by have := nl_26 NY.out; omega), ?_⟩⟩; clear hK K; rintro e w5 ⟨A3, c3, rfl, j3, hb1⟩; refine ⟨_, rfl, hS.below hb1, ?_⟩; replace hS := hS.below hb1; replace h2 := below_look hb1 h2; replace hb := hb.trans (hb1.mono hb.size); clear hb1; try simp only [put_lit, List.set_cons_zero, List.set_cons_succ]
  refine ha_call (i := 8) (by kernel_rfl) rfl rfl (fun K hK => ?_); go_simp; refine ⟨_, _, ⟨rfl, rfl⟩, hK _ _ ⟨_, decimal_any _ s _ _ _ j3 (by have := NZ.out; omega) u k e hu hk he, ?_⟩⟩; clear hK K; rintro e w6 ⟨rfl, hb1⟩; refine ⟨_, rfl, hS.below hb1, ?_⟩; replace hS := hS.below hb1; replace h2 := below_look hb1 h2; replace hb := hb.trans (hb1.mono hb.size); clear hb1; try simp only [put_lit, List.set_cons_zero, List.set_cons_succ]
  refine ha_k (i := 9) rfl (by kernel_rfl) (by kernel_rfl) (by kernel_rfl) (fun _ _ _ _ h => h) hS rfl (fun K hK => ?_); go_simp; refine hK _ ?_; clear hK K; try simp only [put_lit, List.set_cons_zero, List.set_cons_succ]
  refine ha_k (i := 10) rfl (by kernel_rfl) (by kernel_rfl) (by kernel_rfl) (fun _ _ _ _ h => h) hS rfl (fun K hK => ?_); go_simp; refine hK _ ?_; clear hK K; try simp only [put_lit, List.set_cons_zero, List.set_cons_succ]
  refine ha_store (i := 11) (by kernel_rfl) rfl rfl 33 _ _ rfl _ (dc (u) (k)) rfl rfl 33 _ h2 info33 rfl (by simp [dc, Value.oneCell']) (hS.setRow (by simp) _) (fun hS => ?_); try simp only [put_lit, List.set_cons_zero, List.set_cons_succ]
  refine ha_k (i := 12) rfl (by kernel_rfl) (by kernel_rfl) (by kernel_rfl) (fun _ _ _ _ h => h) hS rfl (fun K hK => ?_); go_simp; refine hK _ ?_; clear hK K; try simp only [put_lit, List.set_cons_zero, List.set_cons_succ]
  refine wpAnyH_done (by kernel_rfl) ?_ _
  go_wp2_with fail
  exact bodyPost_ret (res_decErr rfl _ _ (w.heap.size + 1 + 1) rfl (hr_new h2)) rfl ⟨rfl, below_setRow hb (by omega) _⟩
theorem AddI_any (u1 k1 u2 k2 u k e : Int) (h : Hid (addS u1 k1 u2 k2 = (u, k, e))) (w : World) :
    Calls Try.prog 43 #[.agg (dc u1 k1), .agg (dc u2 k2)] w fun e' w' => e' = .returned (.tuple #[.agg (dc u k), .int .i64 e]) ∧ Below w.heap.size w w' := by
  have h := h.out
  unfold addS sumS at h
  rw [allD_two] at h
  cases hv1 : validD u1 k1
  · rw [hv1, Bool.false_and, if_neg (by decide)] at h
    simp only [Prod.mk.injEq] at h
    obtain ⟨rfl, rfl, rfl⟩ := h
    exact AddI_bad1 u1 k1 u2 k2 (Lib.hid hv1.symm) w
  · cases hv2 : validD u2 k2
    · rw [hv1, hv2, Bool.and_false, if_neg (by decide)] at h
      simp only [Prod.mk.injEq] at h
      obtain ⟨rfl, rfl, rfl⟩ := h
      exact AddI_bad2 u1 k1 u2 k2 (Lib.hid hv1.symm) (Lib.hid hv2.symm) w
    · rw [hv1, hv2, Bool.and_true, if_pos rfl] at h
      simp only [Prod.mk.injEq] at h
      obtain ⟨rfl, rfl, rfl⟩ := h
      exact AddI_good u1 k1 u2 k2 (Lib.hid hv1.symm) (Lib.hid hv2.symm) _ _ _ (Lib.hid rfl) (Lib.hid rfl) (Lib.hid rfl) _ _ _ (Lib.hid rfl) (Lib.hid rfl) (Lib.hid rfl) w
theorem SubI_any (u1 k1 u2 k2 u k e : Int) (h : Hid (subS u1 k1 u2 k2 = (u, k, e))) (w : World) :
    Calls Try.prog 45 #[.agg (dc u1 k1), .agg (dc u2 k2)] w fun e' w' => e' = .returned (.tuple #[.agg (dc u k), .int .i64 e]) ∧ Below w.heap.size w w' := by
  have h := h.out
  unfold subS sumS at h
  rw [allD_two] at h
  cases hv1 : validD u1 k1
  · rw [hv1, Bool.false_and, if_neg (by decide)] at h
    simp only [Prod.mk.injEq] at h
    obtain ⟨rfl, rfl, rfl⟩ := h
    exact SubI_bad1 u1 k1 u2 k2 (Lib.hid hv1.symm) w
  · cases hv2 : validD u2 k2
    · rw [hv1, hv2, Bool.and_false, if_neg (by decide)] at h
      simp only [Prod.mk.injEq] at h
      obtain ⟨rfl, rfl, rfl⟩ := h
      exact SubI_bad2 u1 k1 u2 k2 (Lib.hid hv1.symm) (Lib.hid hv2.symm) w
    · rw [hv1, hv2, Bool.and_true, if_pos rfl] at h
      simp only [Prod.mk.injEq] at h
      obtain ⟨rfl, rfl, rfl⟩ := h
      exact SubI_good u1 k1 u2 k2 (Lib.hid hv1.symm) (Lib.hid hv2.symm) _ _ _ (Lib.hid rfl) (Lib.hid rfl) (Lib.hid rfl) _ _ _ (Lib.hid rfl) (Lib.hid rfl) (Lib.hid rfl) w
set_option maxHeartbeats 1000000 in
theorem CompareDecimalI_any (u1 k1 u2 k2 r e : Int) (h : Hid (cmpDS u1 k1 u2 k2 = (r, e))) (w : World) :
    Calls Try.prog 47 #[.agg (dc u1 k1), .agg (dc u2 k2)] w fun e' w' => e' = .returned (.tuple #[.int .i64 r, .int .i64 e]) ∧ Below w.heap.size w w' := by
  have h := h.out
  unfold cmpDS at h
  rw [allD_two] at h
  cases hv1 : validD u1 k1
  · rw [hv1, Bool.false_and, if_neg (by decide)] at h
    simp only [Prod.mk.injEq] at h
    obtain ⟨rfl, rfl⟩ := h
    have H1 := Lib.hid hv1.symm
    clear hv1
    go_enter Try.func47, Try.ntmps47
    go_upto_region 1 with (fail)
    refine wp_world (fun W => W.heap[w.heap.size]? = some (.cells (dc u1 k1) 33 (0, 0)) ∧ W.heap[w.heap.size + 1]? = some (.cells (dc u2 k2) 33 (0, 0)) ∧ Below w.heap.size w W) ⟨ha_old (ha_new rfl), ha_new (by simp), ((Below.refl _ _).alloc (Nat.le_refl _) _).alloc (by simp) _⟩ ?_
    rintro W ⟨h0, h1, hb⟩
    apply wp_region_lit
    ((with_reducible apply wl_rowG); exact rfl; exact rfl; exact rowDc h0)
    refine wl_ck rfl (fun K hK => ?_); go_simp; refine ⟨_, _, ⟨rfl, rfl⟩, hK _ _ ⟨_, ValidI_any u1 k1 false H1 _, ?_⟩⟩; clear hK K; rintro e w1 ⟨rfl, hb1⟩; refine ⟨_, rfl, ?_⟩; simp only [put_lit, List.set_cons_zero, List.set_cons_succ]
    replace h0 := below_look hb1 h0; replace h1 := below_look hb1 h1; replace hb := hb.trans (hb1.mono hb.size); clear hb1
    go_wp2_with fail
    exact bodyPost_ret (results_tmp2 rfl _ _ _) rfl ⟨rfl, hb⟩
  · have H1 := Lib.hid hv1.symm
    cases hv2 : validD u2 k2
    · rw [hv1, hv2, Bool.and_false, if_neg (by decide)] at h
      simp only [Prod.mk.injEq] at h
      obtain ⟨rfl, rfl⟩ := h
      have H2 := Lib.hid hv2.symm
      clear hv1 hv2
      go_enter Try.func47, Try.ntmps47
      go_upto_region 1 with (fail)
      refine wp_world (fun W => W.heap[w.heap.size]? = some (.cells (dc u1 k1) 33 (0, 0)) ∧ W.heap[w.heap.size + 1]? = some (.cells (dc u2 k2) 33 (0, 0)) ∧ Below w.heap.size w W) ⟨ha_old (ha_new rfl), ha_new (by simp), ((Below.refl _ _).alloc (Nat.le_refl _) _).alloc (by simp) _⟩ ?_
      rintro W ⟨h0, h1, hb⟩
      apply wp_region_lit
      ((with_reducible apply wl_rowG); exact rfl; exact rfl; exact rowDc h0)
      refine wl_ck rfl (fun K hK => ?_); go_simp; refine ⟨_, _, ⟨rfl, rfl⟩, hK _ _ ⟨_, ValidI_any u1 k1 true H1 _, ?_⟩⟩; clear hK K; rintro e w1 ⟨rfl, hb1⟩; refine ⟨_, rfl, ?_⟩; simp only [put_lit, List.set_cons_zero, List.set_cons_succ]
      replace h0 := below_look hb1 h0; replace h1 := below_look hb1 h1; replace hb := hb.trans (hb1.mono hb.size); clear hb1
      refine wl_k rfl (fun K hK => ?_); go_simp; refine hK _ ?_; clear hK K
      refine wl_k rfl (fun K hK => ?_); go_simp; refine hK _ ?_; clear hK K
      ((with_reducible apply wl_rowG); exact rfl; exact rfl; exact rowDc h1)
      refine wl_ck rfl (fun K hK => ?_); go_simp; refine ⟨_, _, ⟨rfl, rfl⟩, hK _ _ ⟨_, ValidI_any u2 k2 false H2 _, ?_⟩⟩; clear hK K; rintro e w2 ⟨rfl, hb1⟩; refine ⟨_, rfl, ?_⟩; simp only [put_lit, List.set_cons_zero, List.set_cons_succ]
      replace h0 := below_look hb1 h0; replace h1 := below_look hb1 h1; replace hb := hb.trans (hb1.mono hb.size); clear hb1
      go_wp2_with fail
      exact bodyPost_ret (results_tmp2 rfl _ _ _) rfl ⟨rfl, hb⟩
    · rw [hv1, hv2, Bool.and_true, if_pos rfl] at h
      simp only [Prod.mk.injEq] at h
      obtain ⟨hr, rfl⟩ := h
      have HR := Lib.hid hr
      have H2 := Lib.hid hv2.symm
      have hv : allD [(u1, k1), (u2, k2)] = true := by rw [allD_two, hv1, hv2]; rfl
      have B1 := Lib.hid (ubd1' hv)
      have B2 := Lib.hid (ubd2' hv)
      clear hv1 hv2 hr hv
      go_enter Try.func47, Try.ntmps47
      go_upto_region 1 with (fail)
      refine wp_world (fun W => W.heap[w.heap.size]? = some (.cells (dc u1 k1) 33 (0, 0)) ∧ W.heap[w.heap.size + 1]? = some (.cells (dc u2 k2) 33 (0, 0)) ∧ Below w.heap.size w W) ⟨ha_old (ha_new rfl), ha_new (by simp), ((Below.refl _ _).alloc (Nat.le_refl _) _).alloc (by simp) _⟩ ?_
      rintro W ⟨h0, h1, hb⟩
      apply wp_region_lit
      ((with_reducible apply wl_rowG); exact rfl; exact rfl; exact rowDc h0)
      refine wl_ck rfl (fun K hK => ?_); go_simp; refine ⟨_, _, ⟨rfl, rfl⟩, hK _ _ ⟨_, ValidI_any u1 k1 true H1 _, ?_⟩⟩; clear hK K; rintro e w1 ⟨rfl, hb1⟩; refine ⟨_, rfl, ?_⟩; simp only [put_lit, List.set_cons_zero, List.set_cons_succ]
      replace h0 := below_look hb1 h0; replace h1 := below_look hb1 h1; replace hb := hb.trans (hb1.mono hb.size); clear hb1
      refine wl_k rfl (fun K hK => ?_); go_simp; refine hK _ ?_; clear hK K
      refine wl_k rfl (fun K hK => ?_); go_simp; refine hK _ ?_; clear hK K
      ((with_reducible apply wl_rowG); exact rfl; exact rfl; exact rowDc h1)
      refine wl_ck rfl (fun K hK => ?_); go_simp; refine ⟨_, _, ⟨rfl, rfl⟩, hK _ _ ⟨_, ValidI_any u2 k2 true H2 _, ?_⟩⟩; clear hK K; rintro e w2 ⟨rfl, hb1⟩; refine ⟨_, rfl, ?_⟩; simp only [put_lit, List.set_cons_zero, List.set_cons_succ]
      replace h0 := below_look hb1 h0; replace h1 := below_look hb1 h1; replace hb := hb.trans (hb1.mono hb.size); clear hb1
      go_upto_region 3 with (fail)
      replace hb := hb.drew
      refine wp_region_held_drew (S := Kept [] w2) mixed (Kept.drew [] w2) (fun hS => ?_)
      refine ha_val (i := 0) rfl (by kernel_rfl) (by kernel_rfl) (by kernel_rfl) (fun _ _ _ h => h) hS rfl (fun w' hw' => ex_row rfl (rowDc (hw'.look h0 (by simp <;> omega)))) ?_; try simp only [put_lit, List.set_cons_zero, List.set_cons_succ]
      refine ha_val (i := 2) rfl (by kernel_rfl) (by kernel_rfl) (by kernel_rfl) (fun _ _ _ h => h) hS rfl (fun w' hw' => ex_row rfl (rowDc (hw'.look h1 (by simp <;> omega)))) ?_; try simp only [put_lit, List.set_cons_zero, List.set_cons_succ]
      refine ha_call (i := 1) (by kernel_rfl) rfl rfl (fun K hK => ?_); go_simp; refine ⟨_, _, ⟨rfl, rfl⟩, hK _ _ ⟨_, unitsI_any u1 k1 9 B1 _, ?_⟩⟩; clear hK K; rintro e w3 ⟨A1, c1, rfl, j1, hb1⟩; refine ⟨_, rfl, hS.below hb1, ?_⟩; replace hS := hS.below hb1; replace hb := hb.trans (hb1.mono hb.size); clear hb1; try simp only [put_lit, List.set_cons_zero, List.set_cons_succ]
      refine ha_call (i := 3) (by kernel_rfl) rfl rfl (fun K hK => ?_); go_simp; refine ⟨_, _, ⟨rfl, rfl⟩, hK _ _ ⟨_, unitsI_any u2 k2 9 B2 _, ?_⟩⟩; clear hK K; rintro e w4 ⟨A2, c2, rfl, j2, hb1⟩; refine ⟨_, rfl, hS.below hb1, ?_⟩; replace hS := hS.below hb1; replace j1 := j1.below hb1; replace hb := hb.trans (hb1.mono hb.size); clear hb1; try simp only [put_lit, List.set_cons_zero, List.set_cons_succ]
      refine ha_call (i := 4) (by kernel_rfl) rfl rfl (fun K hK => ?_); go_simp; refine ⟨_, _, ⟨rfl, rfl⟩, hK _ _ ⟨_, CmpI_any _ _ _ _ _ _ _ j1 j2 (by have := nl_26 B1.out.m; omega), ?_⟩⟩; clear hK K; rintro e w5 ⟨rfl, hb1⟩; refine ⟨_, rfl, hS.below hb1, ?_⟩; replace hS := hS.below hb1; replace hb := hb.trans (hb1.mono hb.size); clear hb1; try simp only [put_lit, List.set_cons_zero, List.set_cons_succ]
      rw [HR.out]
      refine ha_k (i := 5) rfl (by kernel_rfl) (by kernel_rfl) (by kernel_rfl) (fun _ _ _ _ h => h) hS rfl (fun K hK => ?_); go_simp; refine hK _ ?_; clear hK K; try simp only [put_lit, List.set_cons_zero, List.set_cons_succ]
      refine ha_k (i := 6) rfl (by kernel_rfl) (by kernel_rfl) (by kernel_rfl) (fun _ _ _ _ h => h) hS rfl (fun K hK => ?_); go_simp; refine hK _ ?_; clear hK K; try simp only [put_lit, List.set_cons_zero, List.set_cons_succ]
      refine wpAnyH_done (by kernel_rfl) ?_ _
      go_wp2_with fail
      exact bodyPost_ret (results_tmp2 rfl _ _ _) rfl ⟨rfl, hb⟩
end Go.Proofs.Ytclainfdeghgnaa

namespace Go.Proofs.Ytclainfdeghgnaa
open Go.RowKit Go.Proofs.Ytclainfdeghgnaa.Nm

def roundN (L : List UInt8) (neg : Bool) (n d : Nat) : Nat := n / d + if upS L neg (n / d) (n % d) d then 1 else 0
theorem roundS_pos (L : List UInt8) (a : Int) {d : Nat} : roundS L a (d : Int) = sg (ng a) (roundN L (ng a) a.natAbs d) := by
  unfold roundS roundN
  have h1 : ng (d : Int) = false := by rw [ng_def]; simp
  have h2 : (d : Int).natAbs = d := Int.natAbs_natCast _
  rw [h1, h2]
  simp
theorem up_zero (L : List UInt8) (neg : Bool) (q d : Nat) (hd : 0 < d) : upS L neg q 0 d = false := by
  unfold upS
  split
  · simp
  · split
    · simp; omega
    · split
      · simp; omega
      · rfl
theorem roundN_own (L : List UInt8) (neg : Bool) (n : Nat) {d : Nat} (hd : 0 < d) : roundN L neg (n * d) d = n := by
  unfold roundN
  rw [Nat.mul_mod_left, Nat.mul_div_cancel _ hd, up_zero L neg n d hd]; rfl
theorem ng_mul (a : Int) {d : Nat} (hd : 0 < d) : ng (a * (d : Int)) = ng a := by
  rw [ng_def, ng_def, decide_eq_decide]
  have hd' : (0 : Int) < d := by omega
  constructor
  · intro h
    rcases Int.lt_or_le a 0 with h1 | h1
    · exact h1
    · have := Int.mul_nonneg h1 (Int.le_of_lt hd'); omega
  · intro h; exact Int.mul_neg_of_neg_of_pos h hd'
theorem sg_ng (a : Int) : sg (ng a) a.natAbs = a := by rw [ng_def]; unfold sg; by_cases h : a < 0 <;> simp [h] <;> omega
theorem roundS_own (L : List UInt8) (u : Int) {d : Nat} (hd : 0 < d) : roundS L (u * (d : Int)) (d : Int) = u := by
  rw [roundS_pos, ng_mul u hd, Int.natAbs_mul, Int.natAbs_natCast, roundN_own L _ _ hd, sg_ng]

/-- The order of two fractions, their whole parts, and what is left. -/
theorem frac_le {n1 d1 n2 d2 : Nat} (h1 : 0 < d1) (h2 : 0 < d2) (h : n1 * d2 ≤ n2 * d1) : n1 / d1 ≤ n2 / d2 ∧ (n1 / d1 = n2 / d2 → n1 % d1 * d2 ≤ n2 % d2 * d1) := by
  have e1 := Nat.div_add_mod n1 d1
  have e2 := Nat.div_add_mod n2 d2
  have m2 := Nat.mod_lt n2 h2
  generalize n1 / d1 = q1 at *
  generalize n1 % d1 = r1 at *
  generalize n2 / d2 = q2 at *
  generalize n2 % d2 = r2 at *
  subst e1 e2
  have h' : q1 * (d1 * d2) + r1 * d2 ≤ q2 * (d1 * d2) + r2 * d1 := by
    have a1 : (d1 * q1 + r1) * d2 = q1 * (d1 * d2) + r1 * d2 := by grind
    have a2 : (d2 * q2 + r2) * d1 = q2 * (d1 * d2) + r2 * d1 := by grind
    omega
  have hr : r2 * d1 < d1 * d2 := by rw [Nat.mul_comm d1]; exact Nat.mul_lt_mul_of_pos_right m2 h1
  refine ⟨Nat.le_of_not_lt fun hlt => ?_, fun e => by subst e; omega⟩
  have := Nat.mul_le_mul_right (d1 * d2) (show q2 + 1 ≤ q1 from hlt)
  rw [Nat.add_mul] at this
  omega
theorem up_mono (L : List UInt8) (neg : Bool) (q : Nat) {r1 d1 r2 d2 : Nat} (h1 : 0 < d1) (h2 : 0 < d2) (h : r1 * d2 ≤ r2 * d1) (hu : upS L neg q r1 d1 = true) : upS L neg q r2 d2 = true := by
  have up : d1 ≤ r1 + r1 → d2 ≤ r2 + r2 := fun hx => Nat.le_of_not_lt fun hlt => by
    have a1 : d1 * d2 ≤ (r1 + r1) * d2 := Nat.mul_le_mul_right _ hx
    have a2 : (r2 + r2) * d1 < d2 * d1 := Nat.mul_lt_mul_of_pos_right hlt h1
    rw [Nat.add_mul] at a1 a2
    rw [Nat.mul_comm d2] at a2
    omega
  have up2 : d1 < r1 + r1 → d2 < r2 + r2 := fun hx => Nat.lt_of_not_le fun hle => by
    have a1 : d1 * d2 < (r1 + r1) * d2 := Nat.mul_lt_mul_of_pos_right hx h2
    have a2 : (r2 + r2) * d1 ≤ d2 * d1 := Nat.mul_le_mul_right _ hle
    rw [Nat.add_mul] at a1 a2
    rw [Nat.mul_comm d2] at a2
    omega
  unfold upS at hu ⊢
  split
  · rename_i hL
    rw [if_pos hL] at hu
    simp only [Bool.and_eq_true, decide_eq_true_eq] at hu ⊢
    refine ⟨hu.1, fun h0 => ?_⟩
    subst h0
    have : 0 < r1 * d2 := Nat.mul_pos (by omega) h2
    omega
  · rename_i hL
    rw [if_neg hL] at hu
    split
    · rename_i hL2
      rw [if_pos hL2] at hu
      simp only [decide_eq_true_eq] at hu ⊢
      exact up hu
    · rename_i hL2
      rw [if_neg hL2] at hu
      split
      · rename_i hL3
        rw [if_pos hL3] at hu
        simp only [Bool.or_eq_true, Bool.and_eq_true, decide_eq_true_eq] at hu ⊢
        rcases hu with hu | ⟨hu, hq⟩
        · exact Or.inl (up2 hu)
        · have := up (by omega)
          rcases Nat.lt_or_ge d2 (r2 + r2) with h3 | h3
          · exact Or.inl h3
          · exact Or.inr ⟨by omega, hq⟩
      · rename_i hL3
        rw [if_neg hL3] at hu
        cases hu
theorem roundN_mono (L : List UInt8) (neg : Bool) {n1 d1 n2 d2 : Nat} (h1 : 0 < d1) (h2 : 0 < d2) (h : n1 * d2 ≤ n2 * d1) : roundN L neg n1 d1 ≤ roundN L neg n2 d2 := by
  obtain ⟨hq, hr⟩ := frac_le h1 h2 h
  unfold roundN
  rcases Nat.lt_or_ge (n1 / d1) (n2 / d2) with hlt | hge
  · split <;> omega
  · have e : n1 / d1 = n2 / d2 := by omega
    have hr := hr e
    rw [e]
    cases hu : upS L neg (n2 / d2) (n1 % d1) d1
    · simp
    · rw [up_mono L neg _ h1 h2 hr hu]; simp
theorem roundS_mono (L : List UInt8) {a1 a2 : Int} {d1 d2 : Nat} (h1 : 0 < d1) (h2 : 0 < d2) (h : a1 * (d2 : Int) ≤ a2 * (d1 : Int)) : roundS L a1 (d1 : Int) ≤ roundS L a2 (d2 : Int) := by
  rw [roundS_pos, roundS_pos]
  rcases Int.lt_or_le a1 0 with n1 | n1
  · have g1 : ng a1 = true := by rw [ng_def]; simpa using n1
    rcases Int.lt_or_le a2 0 with n2 | n2
    · have g2 : ng a2 = true := by rw [ng_def]; simpa using n2
      rw [g1, g2]
      have hm : a2.natAbs * d1 ≤ a1.natAbs * d2 := by
        have e1 : (a1.natAbs : Int) = -a1 := by omega
        have e2 : (a2.natAbs : Int) = -a2 := by omega
        have : ((a2.natAbs * d1 : Nat) : Int) ≤ ((a1.natAbs * d2 : Nat) : Int) := by
          rw [Int.natCast_mul, Int.natCast_mul, e1, e2, Int.neg_mul, Int.neg_mul]; omega
        exact Int.ofNat_le.1 this
      have := roundN_mono L true h2 h1 hm
      unfold sg; simp; omega
    · have g2 : ng a2 = false := by rw [ng_def]; simpa using n2
      rw [g1, g2]; unfold sg; simp only [if_true, if_false, Bool.false_eq_true]; omega
  · have g1 : ng a1 = false := by rw [ng_def]; simpa using n1
    have n2 : 0 ≤ a2 := Int.not_lt.1 fun hlt => by
      have x1 : a2 * (d1 : Int) < 0 := Int.mul_neg_of_neg_of_pos hlt (by omega)
      have x2 : 0 ≤ a1 * (d2 : Int) := Int.mul_nonneg n1 (by omega)
      omega
    have g2 : ng a2 = false := by rw [ng_def]; simpa using n2
    rw [g1, g2]
    have hm : a1.natAbs * d2 ≤ a2.natAbs * d1 := by
      have e1 : (a1.natAbs : Int) = a1 := by omega
      have e2 : (a2.natAbs : Int) = a2 := by omega
      have : ((a1.natAbs * d2 : Nat) : Int) ≤ ((a2.natAbs * d1 : Nat) : Int) := by
        rw [Int.natCast_mul, Int.natCast_mul, e1, e2]; exact h
      exact Int.ofNat_le.1 this
    have := roundN_mono L false h1 h2 hm
    unfold sg; simp; omega
theorem roundN_near (L : List UInt8) (neg : Bool) (n : Nat) {d : Nat} (hd : 0 < d) : n < (roundN L neg n d + 1) * d ∧ roundN L neg n d * d < n + d := by
  unfold roundN
  have e := Nat.div_add_mod n d
  have m := Nat.mod_lt n hd
  have z := up_zero L neg (n / d) d hd
  generalize n / d = q at *
  rw [Nat.mul_comm] at e
  by_cases h0 : n % d = 0
  · rw [h0, z]; rw [h0] at e; simp [Nat.add_mul]; omega
  · split
    · simp only [Nat.add_mul]; omega
    · simp only [Nat.add_mul]; omega
theorem roundS_near (L : List UInt8) (a : Int) {d : Nat} (hd : 0 < d) : a < (roundS L a (d : Int) + 1) * (d : Int) ∧ (roundS L a (d : Int) - 1) * (d : Int) < a := by
  rw [roundS_pos]
  obtain ⟨h1, h2⟩ := roundN_near L (ng a) a.natAbs hd
  generalize roundN L (ng a) a.natAbs d = z at *
  have h1' : ((a.natAbs : Nat) : Int) < ((z : Int) + 1) * d := by have := Int.ofNat_lt.2 h1; simpa using this
  have h2' : (z : Int) * d < (a.natAbs : Int) + d := by have := Int.ofNat_lt.2 h2; simpa using this
  rw [Int.add_mul] at h1'
  rw [ng_def]
  unfold sg
  rcases Int.lt_or_le a 0 with n1 | n1
  · have e1 : (a.natAbs : Int) = -a := by omega
    simp only [n1, decide_true, if_true]
    rw [Int.add_mul, Int.sub_mul, Int.neg_mul]
    omega
  · have e1 : (a.natAbs : Int) = a := by omega
    have : ¬ a < 0 := by omega
    simp only [this, decide_false, Bool.false_eq_true, if_false]
    rw [Int.add_mul, Int.sub_mul]
    omega
theorem roundS_floor (a : Int) {d : Nat} (hd : 0 < d) : roundS [102, 108, 111, 111, 114] a (d : Int) * (d : Int) ≤ a := by
  rw [roundS_pos, ng_def]
  unfold roundN upS sg
  rw [if_pos rfl]
  have e := Nat.div_add_mod a.natAbs d
  have m := Nat.mod_lt a.natAbs hd
  rcases Int.lt_or_le a 0 with n1 | n1
  · have e1 : (a.natAbs : Int) = -a := by omega
    simp only [n1, decide_true, if_true, Bool.true_and, decide_eq_true_eq]
    generalize a.natAbs / d = q at *
    generalize a.natAbs % d = r at *
    have e' : (d : Int) * q + r = -a := by rw [← e1]; exact_mod_cast e
    split
    · rw [Int.neg_mul, Int.natCast_add, Int.add_mul, Int.mul_comm (q : Int)]; omega
    · rename_i h0
      have h0 : r = 0 := by omega
      subst h0
      rw [Int.neg_mul, Int.natCast_add, Int.add_mul, Int.mul_comm (q : Int)]; omega
  · have e1 : (a.natAbs : Int) = a := by omega
    have : ¬ a < 0 := by omega
    simp only [this, decide_false, Bool.false_eq_true, if_false, Bool.false_and, Nat.add_zero]
    generalize a.natAbs / d = q at *
    generalize a.natAbs % d = r at *
    have e' : (d : Int) * q + r = a := by rw [← e1]; exact_mod_cast e
    rw [Int.mul_comm]; omega
end Go.Proofs.Ytclainfdeghgnaa

namespace Go.Proofs.Ytclainfdeghgnaa
open Go.RowKit Go.Proofs.Ytclainfdeghgnaa.Nm
theorem roundS_bd (L : List UInt8) (a b : Int) : (roundS L a b).natAbs ≤ a.natAbs + 1 := by
  unfold roundS
  rw [sg_bd]
  have := Nat.div_le_self a.natAbs b.natAbs
  split <;> omega
/-- What a rounded decimal is. -/
def roundDS (u k scale : Int) (m : List UInt8) : Int × Int × Int :=
  if refusedS [(u, k)] scale m = 0 then (madeU (roundS m (u * t10 scale) (t10 k)), madeK (roundS m (u * t10 scale) (t10 k)) scale, madeE (roundS m (u * t10 scale) (t10 k))) else (0, 0, refusedS [(u, k)] scale m)
theorem refused0 {ds : List (Int × Int)} {scale : Int} {m : List UInt8} (h : refusedS ds scale m = 0) : allD ds = true ∧ isRoundL m = true ∧ 0 ≤ scale ∧ scale ≤ 9 := by
  unfold refusedS at h
  split at h
  · cases h
  · rename_i h1
    split at h
    · cases h
    · rename_i h2
      split at h
      · cases h
      · rename_i h3
        exact ⟨by simpa using h1, by simpa using h2, by omega, by omega⟩
set_option maxHeartbeats 1000000 in
theorem Round_bad (u k scale : Int) (m : ByteArray) (E : Int) (HE : Hid (E = refusedS [(u, k)] scale m.data.toList)) (hE : ¬ E = 0) (w : World) :
    Calls Try.prog 31 #[.agg (dc u k), .int .i64 scale, .string m] w fun e' w' => e' = .returned (.tuple #[.agg (dc 0 0), .int .i64 E]) ∧ Below w.heap.size w w' := by
  go_enter Try.func31, Try.ntmps31
  go_upto_region 1 with (fail)
  refine wp_world (fun W => W.heap[w.heap.size]? = some (.cells (dc u k) 33 (0, 0)) ∧ W.heap[w.heap.size + 1]? = some (.cells (dc 0 0) 33 (0, 0)) ∧ Below w.heap.size w W) ⟨ha_old (ha_new rfl), ha_new (by simp), ((Below.refl _ _).alloc (Nat.le_refl _) _).alloc (by simp) _⟩ ?_
  rintro W ⟨h0, h1, hb⟩
  have a0 := dc0 h0
  have a1 := dc1 h0
  go_upto_region 2 with (go_at_call 72; refine (refused_any W.heap.size 1 [(u, k)] (by simp) scale m E HE _ (ha_new rfl)).mono ?_; rintro e w1 ⟨rfl, hb1⟩; replace hb1 := ((Below.refl W.heap.size W).alloc (Nat.le_refl _) _).trans (hb1.mono (by simp)); clear a0 a1; replace h0 := below_look hb1 h0; replace h1 := below_look hb1 h1; replace hb := hb.trans (hb1.mono hb.size); clear hb1)
  have c0 := dc0 h1
  have c1 := dc1 h1
  have f0 : w1.frozen? ⟨w.heap.size + 1, 0, none⟩ = false := frozen_of_row _ _ _ _ _ h1
  have f1 : w1.frozen? ⟨w.heap.size + 1, 1, none⟩ = false := frozen_of_row _ _ _ _ _ h1
  go_wp2_with fail
  exact bodyPost_ret (res_decErr rfl _ _ (w.heap.size + 1) rfl ((hs_new (hs_new h1)).trans rfl)) rfl ⟨rfl, (hb.setCell (by simp) _).setCell (by simp) _⟩
structure RDBd (u k scale : Int) : Prop where
  u1 : -9223372036854775808 ≤ u
  u2 : u ≤ 9223372036854775807
  s0 : 0 ≤ scale
  s9 : scale ≤ 9223372036854775806
  k0 : 0 ≤ k
  k9 : k ≤ 9223372036854775806
  p1 : 10 ^ scale.toNat < 10 ^ 64
  p2 : 10 ^ k.toNat < 10 ^ 64
  m1 : u.natAbs * (t10 scale).natAbs < 10 ^ 64
  ra : (u * t10 scale).natAbs < 10 ^ 63
  rb0 : 0 < (t10 k).natAbs
  rb1 : (t10 k).natAbs < 10 ^ 63
theorem rdBd {u k scale : Int} {m : List UInt8} (h : refusedS [(u, k)] scale m = 0) : RDBd u k scale := by
  obtain ⟨h1, h2, h3, h4⟩ := refused0 h
  have hv : validD u k = true := by unfold allD at h1; simpa using h1
  obtain ⟨v1, v2, v3, v4⟩ := validD_iff.1 hv
  have a2 : 10 ^ scale.toNat ≤ 10 ^ 9 := p10_le (by omega)
  have a3 : 10 ^ k.toNat ≤ 10 ^ 9 := p10_le (by omega)
  have a1 : u.natAbs ≤ 100000000000000000 := by omega
  have a4 : u.natAbs * (t10 scale).natAbs ≤ 100000000000000000 * 10 ^ 9 := by rw [t10_abs]; exact Nat.mul_le_mul a1 a2
  have a5 := t10_pos k
  exact ⟨by omega, by omega, h3, by omega, v3, by omega, Nat.lt_of_le_of_lt a2 (by decide), Nat.lt_of_le_of_lt a3 (by decide), Nat.lt_of_le_of_lt a4 (by decide), by rw [Int.natAbs_mul]; exact Nat.lt_of_le_of_lt a4 (by decide), by omega, by rw [t10_abs]; exact Nat.lt_of_le_of_lt a3 (by decide)⟩
set_option maxHeartbeats 1000000 in
theorem Round_good (u k scale : Int) (m : ByteArray) (E : Int) (HE : Hid (E = refusedS [(u, k)] scale m.data.toList)) (hE : E = 0) (HRM : Hid (isRoundL m.data.toList = true)) (DB : Hid (RDBd u k scale)) (z : Int) (Hz : Hid (z = roundS m.data.toList (u * t10 scale) (t10 k))) (hzb : Hid (z.natAbs < 10 ^ 64)) (u' k' e : Int) (hu : Hid (u' = madeU z)) (hk : Hid (k' = madeK z scale)) (he : Hid (e = madeE z)) (w : World) :
    Calls Try.prog 31 #[.agg (dc u k), .int .i64 scale, .string m] w fun e' w' => e' = .returned (.tuple #[.agg (dc u' k'), .int .i64 e]) ∧ Below w.heap.size w w' := by
  go_enter Try.func31, Try.ntmps31
  go_upto_region 1 with (fail)
  refine wp_world (fun W => W.heap[w.heap.size]? = some (.cells (dc u k) 33 (0, 0)) ∧ W.heap[w.heap.size + 1]? = some (.cells (dc 0 0) 33 (0, 0)) ∧ Below w.heap.size w W) ⟨ha_old (ha_new rfl), ha_new (by simp), ((Below.refl _ _).alloc (Nat.le_refl _) _).alloc (by simp) _⟩ ?_
  rintro W ⟨h0, h1, hb⟩
  have a0 := dc0 h0
  have a1 := dc1 h0
  go_upto_region 2 with (go_at_call 72; refine (refused_any W.heap.size 1 [(u, k)] (by simp) scale m E HE _ (ha_new rfl)).mono ?_; rintro e w1 ⟨rfl, hb1⟩; replace hb1 := ((Below.refl W.heap.size W).alloc (Nat.le_refl _) _).trans (hb1.mono (by simp)); clear a0 a1; replace h0 := below_look hb1 h0; replace h1 := below_look hb1 h1; replace hb := hb.trans (hb1.mono hb.size); clear hb1)
  go_upto_region 4 with (fail)
  clear hE
  have a0 := dc0 h0
  apply wp_region_lit
  refine wl_k rfl (fun K hK => ?_); go_simp; refine hK _ ?_; clear hK K
  ((with_reducible apply wl_oneG); exact rfl; exact rfl; exact one3 (by with_reducible assumption))
  clear a0
  refine wl_ck rfl (fun K hK => ?_); go_simp; refine ⟨_, _, ⟨rfl, rfl⟩, hK _ _ ⟨_, small_any u DB.out.u1 DB.out.u2 _, ?_⟩⟩; clear hK K; rintro e w2 ⟨rfl, hb1⟩; refine ⟨_, rfl, ?_⟩; simp only [put_lit, List.set_cons_zero, List.set_cons_succ]
  replace h0 := below_look hb1 h0; replace h1 := below_look hb1 h1; replace hb := hb.trans (hb1.mono hb.size); clear hb1
  refine wl_k rfl (fun K hK => ?_); go_simp; refine hK _ ?_; clear hK K
  refine wl_ck rfl (fun K hK => ?_); go_simp; refine ⟨_, _, ⟨rfl, rfl⟩, hK _ _ ⟨_, pow10_any scale DB.out.p1 DB.out.s0 DB.out.s9 _, ?_⟩⟩; clear hK K; rintro e w3 ⟨rfl, hb1⟩; refine ⟨_, rfl, ?_⟩; simp only [put_lit, List.set_cons_zero, List.set_cons_succ]
  replace h0 := below_look hb1 h0; replace h1 := below_look hb1 h1; replace hb := hb.trans (hb1.mono hb.size); clear hb1
  refine wl_ck rfl (fun K hK => ?_); go_simp; refine ⟨_, _, ⟨rfl, rfl⟩, hK _ _ ⟨_, mul_any u (t10 scale) DB.out.m1 _, ?_⟩⟩; clear hK K; rintro e w4 ⟨rfl, hb1⟩; refine ⟨_, rfl, ?_⟩; simp only [put_lit, List.set_cons_zero, List.set_cons_succ]
  replace h0 := below_look hb1 h0; replace h1 := below_look hb1 h1; replace hb := hb.trans (hb1.mono hb.size); clear hb1
  (have lth0p9 := heap_lt h0; have lth1p9 := heap_lt h1; have lsp9 := hb.size; (with_reducible apply wl_new75); intro w5 p9 hbn hlp9 hp9; replace h0 := below_look hbn h0; replace h1 := below_look hbn h1; replace hb := hb.trans (hbn.mono hb.size); clear hbn)
  ((with_reducible apply wl_put75); exact rfl; exact rfl; exact hp9; intro w6 hbx hk hq; replace h0 := hk _ _ (by omega) h0; replace h1 := hk _ _ (by omega) h1; replace hb := hbx _ _ (by omega) hb; clear hp9; have hp9 := hq; clear hbx hk hq)
  go_upto_region 5 with (fail)
  have a1 := dc1 h0
  replace hb := hb.drew
  refine wp_region_held_drew (S := Kept [w.heap.size + 1] w6) mixed (Kept.drew [w.heap.size + 1] w6) (fun hS => ?_)
  refine ha_val (i := 0) rfl (by kernel_rfl) (by kernel_rfl) (by kernel_rfl) (fun _ _ _ h => h) hS rfl (fun w' hw' => ex_row rfl (rowL (hw'.look hp9 (by simp <;> omega)))) ?_; try simp only [put_lit, List.set_cons_zero, List.set_cons_succ]
  refine ha_k (i := 1) rfl (by kernel_rfl) (by kernel_rfl) (by kernel_rfl) (fun _ _ _ _ h => h) hS rfl (fun K hK => ?_); go_simp; refine hK _ ?_; clear hK K; try simp only [put_lit, List.set_cons_zero, List.set_cons_succ]
  refine ha_val (i := 2) rfl (by kernel_rfl) (by kernel_rfl) (by kernel_rfl) (fun _ _ _ h => h) hS rfl (fun w' hw' => ex_one rfl (one3 (hw'.cell a1 (by simp <;> omega)))) ?_; try simp only [put_lit, List.set_cons_zero, List.set_cons_succ]
  refine ha_k (i := 4) rfl (by kernel_rfl) (by kernel_rfl) (by kernel_rfl) (fun _ _ _ _ h => h) hS rfl (fun K hK => ?_); go_simp; refine hK _ ?_; clear hK K; try simp only [put_lit, List.set_cons_zero, List.set_cons_succ]
  refine ha_k (i := 6) rfl (by kernel_rfl) (by kernel_rfl) (by kernel_rfl) (fun _ _ _ _ h => h) hS rfl (fun K hK => ?_); go_simp; refine hK _ ?_; clear hK K; try simp only [put_lit, List.set_cons_zero, List.set_cons_succ]
  refine ha_call (i := 3) (by kernel_rfl) rfl rfl (fun K hK => ?_); go_simp; refine ⟨_, _, ⟨rfl, rfl⟩, hK _ _ ⟨_, pow10_any k DB.out.p2 DB.out.k0 DB.out.k9 _, ?_⟩⟩; clear hK K; rintro e w7 ⟨rfl, hb1⟩; refine ⟨_, rfl, hS.below hb1, ?_⟩; replace hS := hS.below hb1; replace h1 := below_look hb1 h1; replace hb := hb.trans (hb1.mono hb.size); clear hb1; try simp only [put_lit, List.set_cons_zero, List.set_cons_succ]
  refine ha_call (i := 5) (by kernel_rfl) rfl rfl (fun K hK => ?_); go_simp; refine ⟨_, _, ⟨rfl, rfl⟩, hK _ _ ⟨_, rounded_any (u * t10 scale) (t10 k) m HRM.out DB.out.rb0 DB.out.rb1 DB.out.ra _, ?_⟩⟩; clear hK K; rintro e w8 ⟨rfl, hb1⟩; refine ⟨_, rfl, hS.below hb1, ?_⟩; replace hS := hS.below hb1; replace h1 := below_look hb1 h1; replace hb := hb.trans (hb1.mono hb.size); clear hb1; rw [← Hz.out]; try simp only [put_lit, List.set_cons_zero, List.set_cons_succ]
  refine ha_call (i := 7) (by kernel_rfl) rfl rfl (fun K hK => ?_); go_simp; refine ⟨_, _, ⟨rfl, rfl⟩, hK _ _ ⟨_, made_any z scale hzb.out u' k' e hu hk he _, ?_⟩⟩; clear hK K; rintro e w9 ⟨rfl, hb1⟩; refine ⟨_, rfl, hS.below hb1, ?_⟩; replace hS := hS.below hb1; replace h1 := below_look hb1 h1; replace hb := hb.trans (hb1.mono hb.size); clear hb1; try simp only [put_lit, List.set_cons_zero, List.set_cons_succ]
  refine ha_k (i := 8) rfl (by kernel_rfl) (by kernel_rfl) (by kernel_rfl) (fun _ _ _ _ h => h) hS rfl (fun K hK => ?_); go_simp; refine hK _ ?_; clear hK K; try simp only [put_lit, List.set_cons_zero, List.set_cons_succ]
  refine ha_k (i := 9) rfl (by kernel_rfl) (by kernel_rfl) (by kernel_rfl) (fun _ _ _ _ h => h) hS rfl (fun K hK => ?_); go_simp; refine hK _ ?_; clear hK K; try simp only [put_lit, List.set_cons_zero, List.set_cons_succ]
  refine ha_store (i := 10) (by kernel_rfl) rfl rfl 33 _ _ rfl _ (dc (u') (k')) rfl rfl 33 _ h1 info33 rfl (by simp [dc, Value.oneCell']) (hS.setRow (by simp) _) (fun hS => ?_); try simp only [put_lit, List.set_cons_zero, List.set_cons_succ]
  refine ha_k (i := 11) rfl (by kernel_rfl) (by kernel_rfl) (by kernel_rfl) (fun _ _ _ _ h => h) hS rfl (fun K hK => ?_); go_simp; refine hK _ ?_; clear hK K; try simp only [put_lit, List.set_cons_zero, List.set_cons_succ]
  refine wpAnyH_done (by kernel_rfl) ?_ _
  clear a1
  go_wp2_with fail
  exact bodyPost_ret (res_decErr rfl _ _ (w.heap.size + 1) rfl (hr_new h1)) rfl ⟨rfl, below_setRow hb (by omega) _⟩
theorem Round_any (u k scale : Int) (m : ByteArray) (u' k' e : Int) (h : Hid (roundDS u k scale m.data.toList = (u', k', e))) (w : World) :
    Calls Try.prog 31 #[.agg (dc u k), .int .i64 scale, .string m] w fun e' w' => e' = .returned (.tuple #[.agg (dc u' k'), .int .i64 e]) ∧ Below w.heap.size w w' := by
  have h := h.out
  unfold roundDS at h
  by_cases hv : refusedS [(u, k)] scale m.data.toList = 0
  · rw [if_pos hv] at h
    simp only [Prod.mk.injEq] at h
    obtain ⟨rfl, rfl, rfl⟩ := h
    obtain ⟨_, hm, _, _⟩ := refused0 hv
    have B := rdBd hv
    refine Round_good u k scale m 0 (Lib.hid hv.symm) rfl (Lib.hid hm) (Lib.hid B) _ (Lib.hid rfl) (Lib.hid ?_) _ _ _ (Lib.hid rfl) (Lib.hid rfl) (Lib.hid rfl) w
    have h1 := roundS_bd m.data.toList (u * t10 scale) (t10 k)
    have h2 := B.ra
    have h3 : (10 : Nat) ^ 63 + 1 < 10 ^ 64 := by decide
    omega
  · rw [if_neg hv] at h
    simp only [Prod.mk.injEq] at h
    obtain ⟨rfl, rfl, rfl⟩ := h
    exact Round_bad u k scale m _ (Lib.hid rfl) hv w
end Go.Proofs.Ytclainfdeghgnaa

namespace Go.Proofs.Ytclainfdeghgnaa
open Go.RowKit Go.Proofs.Ytclainfdeghgnaa.Nm Go.Proofs.Ytclainfdeghgnaa.Lm
set_option maxHeartbeats 1000000 in
theorem isRoundI_any (m : ByteArray) (w : World) :
    Calls Try.prog 122 #[.string m] w fun e w' => e = .returned (.bool (isRoundL m.data.toList)) ∧ Below w.heap.size w w' := by
  have hu : isRoundL m.data.toList = (m.data.toList == [100, 111, 119, 110] || m.data.toList == [102, 108, 111, 111, 114] || m.data.toList == [104, 97, 108, 102] || m.data.toList == [101, 118, 101, 110]) := rfl
  rw [hu]
  clear hu
  have e (l : List UInt8) : (m.toList == l) = (m.data.toList == l) := by rw [ByteArray.toList_eq]
  rw [← e, ← e, ← e, ← e]
  clear e
  cases h1 : (m.toList == [100, 111, 119, 110])
  · cases h2 : (m.toList == [102, 108, 111, 111, 114])
    · cases h3 : (m.toList == [104, 97, 108, 102])
      · cases h4 : (m.toList == [101, 118, 101, 110])
        · go_enter Try.func122, Try.ntmps122
          go_wp2_with fail
          go_ret
          exact ⟨rfl, Below.refl _ _⟩
        · go_enter Try.func122, Try.ntmps122
          go_wp2_with fail
          go_ret
          exact ⟨rfl, Below.refl _ _⟩
      · go_enter Try.func122, Try.ntmps122
        go_wp2_with fail
        go_ret
        exact ⟨rfl, Below.refl _ _⟩
    · go_enter Try.func122, Try.ntmps122
      go_wp2_with fail
      go_ret
      exact ⟨rfl, Below.refl _ _⟩
  · go_enter Try.func122, Try.ntmps122
    go_wp2_with fail
    go_ret
    exact ⟨rfl, Below.refl _ _⟩
theorem errIfI_any (b : Bool) (e0 : Int) (w : World) :
    Calls Try.prog 123 #[.bool b, .int .i64 e0] w fun e w' => e = .returned (.int .i64 (if b then e0 else 0)) ∧ Below w.heap.size w w' := by
  cases b
  · go_enter Try.func123, Try.ntmps123
    go_wp2_with fail
    go_ret
    exact ⟨rfl, Below.refl _ _⟩
  · go_enter Try.func123, Try.ntmps123
    go_wp2_with fail
    go_ret
    exact ⟨rfl, Below.refl _ _⟩
set_option maxHeartbeats 1000000 in
theorem askedI_1 (u1 k1 u2 k2 scale : Int) (m : ByteArray) (H1 : Hid (false = validD u1 k1)) (w : World) :
    Calls Try.prog 77 #[.agg (dc u1 k1), .agg (dc u2 k2), .int .i64 scale, .string m] w fun e w' => e = .returned (.int .i64 4) ∧ Below w.heap.size w w' := by
  go_enter Try.func77, Try.ntmps77
  go_upto_region 1 with (fail)
  refine wp_world (fun W => W.heap[w.heap.size]? = some (.cells (dc u1 k1) 33 (0, 0)) ∧ W.heap[w.heap.size + 1]? = some (.cells (dc u2 k2) 33 (0, 0)) ∧ Below w.heap.size w W) ⟨ha_old (ha_new rfl), ha_new (by simp), ((Below.refl _ _).alloc (Nat.le_refl _) _).alloc (by simp) _⟩ ?_
  rintro W ⟨h0, h1, hb⟩
  apply wp_region_lit
  ((with_reducible apply wl_rowG); exact rfl; exact rfl; exact rowDc h0)
  refine wl_ck rfl (fun K hK => ?_); go_simp; refine ⟨_, _, ⟨rfl, rfl⟩, hK _ _ ⟨_, ValidI_any u1 k1 false H1 _, ?_⟩⟩; clear hK K; rintro e w1 ⟨rfl, hb1⟩; refine ⟨_, rfl, ?_⟩; simp only [put_lit, List.set_cons_zero, List.set_cons_succ]
  replace h0 := below_look hb1 h0; replace h1 := below_look hb1 h1; replace hb := hb.trans (hb1.mono hb.size); clear hb1
  go_wp2_with fail
  go_ret
  exact ⟨rfl, hb⟩
set_option maxHeartbeats 1000000 in
theorem askedI_2 (u1 k1 u2 k2 scale : Int) (m : ByteArray) (H1 : Hid (true = validD u1 k1)) (H2 : Hid (false = validD u2 k2)) (w : World) :
    Calls Try.prog 77 #[.agg (dc u1 k1), .agg (dc u2 k2), .int .i64 scale, .string m] w fun e w' => e = .returned (.int .i64 4) ∧ Below w.heap.size w w' := by
  go_enter Try.func77, Try.ntmps77
  go_upto_region 1 with (fail)
  refine wp_world (fun W => W.heap[w.heap.size]? = some (.cells (dc u1 k1) 33 (0, 0)) ∧ W.heap[w.heap.size + 1]? = some (.cells (dc u2 k2) 33 (0, 0)) ∧ Below w.heap.size w W) ⟨ha_old (ha_new rfl), ha_new (by simp), ((Below.refl _ _).alloc (Nat.le_refl _) _).alloc (by simp) _⟩ ?_
  rintro W ⟨h0, h1, hb⟩
  apply wp_region_lit
  ((with_reducible apply wl_rowG); exact rfl; exact rfl; exact rowDc h0)
  refine wl_ck rfl (fun K hK => ?_); go_simp; refine ⟨_, _, ⟨rfl, rfl⟩, hK _ _ ⟨_, ValidI_any u1 k1 true H1 _, ?_⟩⟩; clear hK K; rintro e w1 ⟨rfl, hb1⟩; refine ⟨_, rfl, ?_⟩; simp only [put_lit, List.set_cons_zero, List.set_cons_succ]
  replace h0 := below_look hb1 h0; replace h1 := below_look hb1 h1; replace hb := hb.trans (hb1.mono hb.size); clear hb1
  refine wl_k rfl (fun K hK => ?_); go_simp; refine hK _ ?_; clear hK K
  refine wl_k rfl (fun K hK => ?_); go_simp; refine hK _ ?_; clear hK K
  ((with_reducible apply wl_rowG); exact rfl; exact rfl; exact rowDc h1)
  refine wl_ck rfl (fun K hK => ?_); go_simp; refine ⟨_, _, ⟨rfl, rfl⟩, hK _ _ ⟨_, ValidI_any u2 k2 false H2 _, ?_⟩⟩; clear hK K; rintro e w2 ⟨rfl, hb1⟩; refine ⟨_, rfl, ?_⟩; simp only [put_lit, List.set_cons_zero, List.set_cons_succ]
  replace h0 := below_look hb1 h0; replace h1 := below_look hb1 h1; replace hb := hb.trans (hb1.mono hb.size); clear hb1
  go_wp2_with fail
  go_ret
  exact ⟨rfl, hb⟩
set_option maxHeartbeats 1000000 in
theorem askedI_3 (u1 k1 u2 k2 scale : Int) (m : ByteArray) (H1 : Hid (true = validD u1 k1)) (H2 : Hid (true = validD u2 k2)) (HR : Hid (false = isRoundL m.data.toList)) (w : World) :
    Calls Try.prog 77 #[.agg (dc u1 k1), .agg (dc u2 k2), .int .i64 scale, .string m] w fun e w' => e = .returned (.int .i64 3) ∧ Below w.heap.size w w' := by
  go_enter Try.func77, Try.ntmps77
  go_upto_region 1 with (fail)
  refine wp_world (fun W => W.heap[w.heap.size]? = some (.cells (dc u1 k1) 33 (0, 0)) ∧ W.heap[w.heap.size + 1]? = some (.cells (dc u2 k2) 33 (0, 0)) ∧ Below w.heap.size w W) ⟨ha_old (ha_new rfl), ha_new (by simp), ((Below.refl _ _).alloc (Nat.le_refl _) _).alloc (by simp) _⟩ ?_
  rintro W ⟨h0, h1, hb⟩
  apply wp_region_lit
  ((with_reducible apply wl_rowG); exact rfl; exact rfl; exact rowDc h0)
  refine wl_ck rfl (fun K hK => ?_); go_simp; refine ⟨_, _, ⟨rfl, rfl⟩, hK _ _ ⟨_, ValidI_any u1 k1 true H1 _, ?_⟩⟩; clear hK K; rintro e w1 ⟨rfl, hb1⟩; refine ⟨_, rfl, ?_⟩; simp only [put_lit, List.set_cons_zero, List.set_cons_succ]
  replace h0 := below_look hb1 h0; replace h1 := below_look hb1 h1; replace hb := hb.trans (hb1.mono hb.size); clear hb1
  refine wl_k rfl (fun K hK => ?_); go_simp; refine hK _ ?_; clear hK K
  refine wl_k rfl (fun K hK => ?_); go_simp; refine hK _ ?_; clear hK K
  ((with_reducible apply wl_rowG); exact rfl; exact rfl; exact rowDc h1)
  refine wl_ck rfl (fun K hK => ?_); go_simp; refine ⟨_, _, ⟨rfl, rfl⟩, hK _ _ ⟨_, ValidI_any u2 k2 true H2 _, ?_⟩⟩; clear hK K; rintro e w2 ⟨rfl, hb1⟩; refine ⟨_, rfl, ?_⟩; simp only [put_lit, List.set_cons_zero, List.set_cons_succ]
  replace h0 := below_look hb1 h0; replace h1 := below_look hb1 h1; replace hb := hb.trans (hb1.mono hb.size); clear hb1
  go_upto_region 3 with (fail)
  apply wp_region_lit
  refine wl_k rfl (fun K hK => ?_); go_simp; refine hK _ ?_; clear hK K
  refine wl_ck rfl (fun K hK => ?_); go_simp; refine ⟨_, _, ⟨rfl, rfl⟩, hK _ _ ⟨_, isRoundI_any m _, ?_⟩⟩; clear hK K; rintro e w3 ⟨rfl, hb1⟩; refine ⟨_, rfl, ?_⟩; simp only [put_lit, List.set_cons_zero, List.set_cons_succ]
  replace h0 := below_look hb1 h0; replace h1 := below_look hb1 h1; replace hb := hb.trans (hb1.mono hb.size); clear hb1
  rw [← HR.out]
  go_wp2_with fail
  go_ret
  exact ⟨rfl, hb⟩
set_option maxHeartbeats 1000000 in
theorem askedI_4 (u1 k1 u2 k2 scale : Int) (m : ByteArray) (H1 : Hid (true = validD u1 k1)) (H2 : Hid (true = validD u2 k2)) (HR : Hid (true = isRoundL m.data.toList)) (w : World) :
    Calls Try.prog 77 #[.agg (dc u1 k1), .agg (dc u2 k2), .int .i64 scale, .string m] w fun e w' => e = .returned (.int .i64 (if scale < 0 ∨ 9 < scale then 1 else 0)) ∧ Below w.heap.size w w' := by
  by_cases s0 : scale < 0
  · rw [if_pos (Or.inl s0)]
    go_enter Try.func77, Try.ntmps77
    go_upto_region 1 with (fail)
    refine wp_world (fun W => W.heap[w.heap.size]? = some (.cells (dc u1 k1) 33 (0, 0)) ∧ W.heap[w.heap.size + 1]? = some (.cells (dc u2 k2) 33 (0, 0)) ∧ Below w.heap.size w W) ⟨ha_old (ha_new rfl), ha_new (by simp), ((Below.refl _ _).alloc (Nat.le_refl _) _).alloc (by simp) _⟩ ?_
    rintro W ⟨h0, h1, hb⟩
    apply wp_region_lit
    ((with_reducible apply wl_rowG); exact rfl; exact rfl; exact rowDc h0)
    refine wl_ck rfl (fun K hK => ?_); go_simp; refine ⟨_, _, ⟨rfl, rfl⟩, hK _ _ ⟨_, ValidI_any u1 k1 true H1 _, ?_⟩⟩; clear hK K; rintro e w1 ⟨rfl, hb1⟩; refine ⟨_, rfl, ?_⟩; simp only [put_lit, List.set_cons_zero, List.set_cons_succ]
    replace h0 := below_look hb1 h0; replace h1 := below_look hb1 h1; replace hb := hb.trans (hb1.mono hb.size); clear hb1
    refine wl_k rfl (fun K hK => ?_); go_simp; refine hK _ ?_; clear hK K
    refine wl_k rfl (fun K hK => ?_); go_simp; refine hK _ ?_; clear hK K
    ((with_reducible apply wl_rowG); exact rfl; exact rfl; exact rowDc h1)
    refine wl_ck rfl (fun K hK => ?_); go_simp; refine ⟨_, _, ⟨rfl, rfl⟩, hK _ _ ⟨_, ValidI_any u2 k2 true H2 _, ?_⟩⟩; clear hK K; rintro e w2 ⟨rfl, hb1⟩; refine ⟨_, rfl, ?_⟩; simp only [put_lit, List.set_cons_zero, List.set_cons_succ]
    replace h0 := below_look hb1 h0; replace h1 := below_look hb1 h1; replace hb := hb.trans (hb1.mono hb.size); clear hb1
    go_upto_region 3 with (fail)
    apply wp_region_lit
    refine wl_k rfl (fun K hK => ?_); go_simp; refine hK _ ?_; clear hK K
    refine wl_ck rfl (fun K hK => ?_); go_simp; refine ⟨_, _, ⟨rfl, rfl⟩, hK _ _ ⟨_, isRoundI_any m _, ?_⟩⟩; clear hK K; rintro e w3 ⟨rfl, hb1⟩; refine ⟨_, rfl, ?_⟩; simp only [put_lit, List.set_cons_zero, List.set_cons_succ]
    replace h0 := below_look hb1 h0; replace h1 := below_look hb1 h1; replace hb := hb.trans (hb1.mono hb.size); clear hb1
    rw [← HR.out]
    go_wp2_with (go_at_call 123; refine (errIfI_any _ _ _).mono ?_; rintro e w9 ⟨rfl, hb1⟩; replace hb := hb.trans (hb1.mono hb.size); clear hb1)
    go_ret
    exact ⟨rfl, hb⟩
  · by_cases s9 : 9 < scale
    · rw [if_pos (Or.inr s9)]
      go_enter Try.func77, Try.ntmps77
      go_upto_region 1 with (fail)
      refine wp_world (fun W => W.heap[w.heap.size]? = some (.cells (dc u1 k1) 33 (0, 0)) ∧ W.heap[w.heap.size + 1]? = some (.cells (dc u2 k2) 33 (0, 0)) ∧ Below w.heap.size w W) ⟨ha_old (ha_new rfl), ha_new (by simp), ((Below.refl _ _).alloc (Nat.le_refl _) _).alloc (by simp) _⟩ ?_
      rintro W ⟨h0, h1, hb⟩
      apply wp_region_lit
      ((with_reducible apply wl_rowG); exact rfl; exact rfl; exact rowDc h0)
      refine wl_ck rfl (fun K hK => ?_); go_simp; refine ⟨_, _, ⟨rfl, rfl⟩, hK _ _ ⟨_, ValidI_any u1 k1 true H1 _, ?_⟩⟩; clear hK K; rintro e w1 ⟨rfl, hb1⟩; refine ⟨_, rfl, ?_⟩; simp only [put_lit, List.set_cons_zero, List.set_cons_succ]
      replace h0 := below_look hb1 h0; replace h1 := below_look hb1 h1; replace hb := hb.trans (hb1.mono hb.size); clear hb1
      refine wl_k rfl (fun K hK => ?_); go_simp; refine hK _ ?_; clear hK K
      refine wl_k rfl (fun K hK => ?_); go_simp; refine hK _ ?_; clear hK K
      ((with_reducible apply wl_rowG); exact rfl; exact rfl; exact rowDc h1)
      refine wl_ck rfl (fun K hK => ?_); go_simp; refine ⟨_, _, ⟨rfl, rfl⟩, hK _ _ ⟨_, ValidI_any u2 k2 true H2 _, ?_⟩⟩; clear hK K; rintro e w2 ⟨rfl, hb1⟩; refine ⟨_, rfl, ?_⟩; simp only [put_lit, List.set_cons_zero, List.set_cons_succ]
      replace h0 := below_look hb1 h0; replace h1 := below_look hb1 h1; replace hb := hb.trans (hb1.mono hb.size); clear hb1
      go_upto_region 3 with (fail)
      apply wp_region_lit
      refine wl_k rfl (fun K hK => ?_); go_simp; refine hK _ ?_; clear hK K
      refine wl_ck rfl (fun K hK => ?_); go_simp; refine ⟨_, _, ⟨rfl, rfl⟩, hK _ _ ⟨_, isRoundI_any m _, ?_⟩⟩; clear hK K; rintro e w3 ⟨rfl, hb1⟩; refine ⟨_, rfl, ?_⟩; simp only [put_lit, List.set_cons_zero, List.set_cons_succ]
      replace h0 := below_look hb1 h0; replace h1 := below_look hb1 h1; replace hb := hb.trans (hb1.mono hb.size); clear hb1
      rw [← HR.out]
      go_wp2_with (go_at_call 123; refine (errIfI_any _ _ _).mono ?_; rintro e w9 ⟨rfl, hb1⟩; replace hb := hb.trans (hb1.mono hb.size); clear hb1)
      go_ret
      exact ⟨rfl, hb⟩
    · rw [if_neg (by omega)]
      go_enter Try.func77, Try.ntmps77
      go_upto_region 1 with (fail)
      refine wp_world (fun W => W.heap[w.heap.size]? = some (.cells (dc u1 k1) 33 (0, 0)) ∧ W.heap[w.heap.size + 1]? = some (.cells (dc u2 k2) 33 (0, 0)) ∧ Below w.heap.size w W) ⟨ha_old (ha_new rfl), ha_new (by simp), ((Below.refl _ _).alloc (Nat.le_refl _) _).alloc (by simp) _⟩ ?_
      rintro W ⟨h0, h1, hb⟩
      apply wp_region_lit
      ((with_reducible apply wl_rowG); exact rfl; exact rfl; exact rowDc h0)
      refine wl_ck rfl (fun K hK => ?_); go_simp; refine ⟨_, _, ⟨rfl, rfl⟩, hK _ _ ⟨_, ValidI_any u1 k1 true H1 _, ?_⟩⟩; clear hK K; rintro e w1 ⟨rfl, hb1⟩; refine ⟨_, rfl, ?_⟩; simp only [put_lit, List.set_cons_zero, List.set_cons_succ]
      replace h0 := below_look hb1 h0; replace h1 := below_look hb1 h1; replace hb := hb.trans (hb1.mono hb.size); clear hb1
      refine wl_k rfl (fun K hK => ?_); go_simp; refine hK _ ?_; clear hK K
      refine wl_k rfl (fun K hK => ?_); go_simp; refine hK _ ?_; clear hK K
      ((with_reducible apply wl_rowG); exact rfl; exact rfl; exact rowDc h1)
      refine wl_ck rfl (fun K hK => ?_); go_simp; refine ⟨_, _, ⟨rfl, rfl⟩, hK _ _ ⟨_, ValidI_any u2 k2 true H2 _, ?_⟩⟩; clear hK K; rintro e w2 ⟨rfl, hb1⟩; refine ⟨_, rfl, ?_⟩; simp only [put_lit, List.set_cons_zero, List.set_cons_succ]
      replace h0 := below_look hb1 h0; replace h1 := below_look hb1 h1; replace hb := hb.trans (hb1.mono hb.size); clear hb1
      go_upto_region 3 with (fail)
      apply wp_region_lit
      refine wl_k rfl (fun K hK => ?_); go_simp; refine hK _ ?_; clear hK K
      refine wl_ck rfl (fun K hK => ?_); go_simp; refine ⟨_, _, ⟨rfl, rfl⟩, hK _ _ ⟨_, isRoundI_any m _, ?_⟩⟩; clear hK K; rintro e w3 ⟨rfl, hb1⟩; refine ⟨_, rfl, ?_⟩; simp only [put_lit, List.set_cons_zero, List.set_cons_succ]
      replace h0 := below_look hb1 h0; replace h1 := below_look hb1 h1; replace hb := hb.trans (hb1.mono hb.size); clear hb1
      rw [← HR.out]
      go_wp2_with (go_at_call 123; refine (errIfI_any _ _ _).mono ?_; rintro e w9 ⟨rfl, hb1⟩; replace hb := hb.trans (hb1.mono hb.size); clear hb1)
      go_ret
      exact ⟨rfl, hb⟩
theorem askedI_any (u1 k1 u2 k2 scale : Int) (m : ByteArray) (E : Int) (HE : Hid (E = refusedS [(u1, k1), (u2, k2)] scale m.data.toList)) (w : World) :
    Calls Try.prog 77 #[.agg (dc u1 k1), .agg (dc u2 k2), .int .i64 scale, .string m] w fun e w' => e = .returned (.int .i64 E) ∧ Below w.heap.size w w' := by
  have h := HE.out
  unfold refusedS at h
  rw [allD_two] at h
  cases h1 : validD u1 k1
  · simp [h1] at h
    subst h
    exact askedI_1 _ _ _ _ _ _ (Lib.hid h1.symm) w
  cases h2 : validD u2 k2
  · simp [h1, h2] at h
    subst h
    exact askedI_2 _ _ _ _ _ _ (Lib.hid h1.symm) (Lib.hid h2.symm) w
  cases h3 : isRoundL m.data.toList
  · simp [h1, h2, h3] at h
    subst h
    exact askedI_3 _ _ _ _ _ _ (Lib.hid h1.symm) (Lib.hid h2.symm) (Lib.hid h3.symm) w
  · simp [h1, h2, h3] at h
    subst h
    exact askedI_4 _ _ _ _ _ _ (Lib.hid h1.symm) (Lib.hid h2.symm) (Lib.hid h3.symm) w
end Go.Proofs.Ytclainfdeghgnaa

namespace Go.Proofs.Ytclainfdeghgnaa
open Go.RowKit Go.Proofs.Ytclainfdeghgnaa.Nm Go.Proofs.Ytclainfdeghgnaa.Lm
/-- whether a quotient is taken up -/
def upB (L : List UInt8) (a b : Int) : Bool := upS L (ng a != ng b) (a.natAbs / b.natAbs) (a.natAbs % b.natAbs) b.natAbs
theorem rs_down {L : List UInt8} {a b : Int} (h : upB L a b = false) : roundS L a b = a.tdiv b := by
  unfold upB at h
  unfold roundS
  rw [h, ← tdiv_sg]
  simp
theorem rs_up {L : List UInt8} {a b : Int} (h : upB L a b = true) : roundS L a b = sg (ng a != ng b) (a.natAbs / b.natAbs + 1) := by
  unfold upB at h
  unfold roundS
  rw [h]
  simp
theorem rs_neg {L : List UInt8} {a b : Int} (h : upB L a b = true) (hb : 0 < b) (hr : a.tmod b < 0) : roundS L a b = a.tdiv b - 1 := by
  have ha : a < 0 := by
    by_cases h : a < 0
    · exact h
    · have := Int.tmod_nonneg b (a := a) (by omega); omega
  have e1 : ng a = true := by rw [ng_def]; simpa using ha
  have e2 : ng b = false := by rw [ng_def]; simp; omega
  rw [rs_up h, ← tdiv_sg, e1, e2]
  unfold sg
  simp
  omega
theorem rs_pos {L : List UInt8} {a b : Int} (h : upB L a b = true) (hb : 0 < b) (hr : 0 < a.tmod b) : roundS L a b = a.tdiv b + 1 := by
  have ha : 0 ≤ a := by
    by_cases h : a < 0
    · have := tmod_sg a b
      rw [show ng a = true by rw [ng_def]; simpa using h] at this
      unfold sg at this
      simp only [if_true] at this
      omega
    · omega
  have e1 : ng a = false := by rw [ng_def]; simp; omega
  have e2 : ng b = false := by rw [ng_def]; simp; omega
  rw [rs_up h, ← tdiv_sg, e1, e2]
  unfold sg
  simp
theorem tmod_abs (a b : Int) : (a.tmod b).natAbs = a.natAbs % b.natAbs := by rw [← tmod_sg, sg_bd]
theorem up_r0 {L : List UInt8} {a b : Int} (h : upB L a b = true) (hb : 0 < b) : a.tmod b ≠ 0 := by
  intro h0
  have e := tmod_abs a b
  rw [h0] at e
  unfold upB at h
  rw [← e] at h
  unfold upS at h
  split at h
  · simp at h
  · split at h
    · simp at h; omega
    · split at h
      · simp at h; omega
      · cases h
theorem up_floor {a b : Int} (hb : 0 < b) : upB [102, 108, 111, 111, 114] a b = ng (a.tmod b) := by
  have e2 : ng b = false := by rw [ng_def]; simp; omega
  have e := tmod_abs a b
  unfold upB upS
  rw [e2, ← e, ng_def, ng_def]
  have := tmod_sg a b
  rw [ng_def] at this
  unfold sg at this
  rw [← e] at this
  by_cases ha : a < 0
  · simp [ha] at this ⊢
    rw [Bool.eq_iff_iff]
    simp
    omega
  · simp [ha] at this ⊢
    omega
theorem nl_tmod {a b : Int} {k : Nat} (h : nl a.natAbs ≤ k) : nl (a.tmod b).natAbs ≤ k := by
  rw [tmod_abs]
  exact nl_sub (Nat.mod_le _ _) h
theorem nl_tdiv {a b : Int} {k : Nat} (h : nl a.natAbs ≤ k) : nl (a.tdiv b).natAbs ≤ k := by
  rw [← tdiv_sg, sg_bd]
  exact nl_sub (Nat.div_le_self _ _) h
theorem nl_two {a b : Int} (h : nl b.natAbs ≤ 200) (h0 : b ≠ 0) : nl ((a.tmod b).natAbs + (a.tmod b).natAbs) ≤ 400 := by
  rw [tmod_abs]
  have := (nl_dbl (Nat.mod_lt a.natAbs (Int.natAbs_pos.2 h0))).1
  omega
theorem nl_pos' {n : Nat} (h : n ≠ 0) : ¬ ((nl n : Nat) : Int) = 0 := by
  intro h0
  exact h (nl_eq_zero.1 (by omega))
/-- what the answer is, by whether it is taken up -/
def RsOf (U : Bool) (R q r : Int) : Prop := (U = false → R = q) ∧ (U = true → (r < 0 → R = q - 1) ∧ (0 < r → R = q + 1))
theorem RsOf.mk' (L : List UInt8) {a b : Int} (hb : 0 < b) : RsOf (upB L a b) (roundS L a b) (a.tdiv b) (a.tmod b) :=
  ⟨fun h => rs_down h, fun h => ⟨fun hr => rs_neg h hb hr, fun hr => rs_pos h hb hr⟩⟩
set_option maxHeartbeats 4000000 in
set_option maxRecDepth 100000 in
theorem roundedI_down (a b : Int) (A A' : Option Addr) (c c' : Nat) (m : ByteArray) (w : World) (hx : IvAt w a A c) (hy : IvAt w b A' c') (hn : nl a.natAbs ≤ 200) (hn' : nl b.natAbs ≤ 200) (hb0 : 0 < b) (T : Int) (HTT : Hid (T = (((a.tmod b).natAbs + (a.tmod b).natAbs : Nat) : Int))) (hm : m.data.toList = [100, 111, 119, 110]) (R : Int) (HS : Hid (RsOf false R (a.tdiv b) (a.tmod b))) :
    Calls Try.prog 81 #[.agg (iv a A c), .agg (iv b A' c'), .string m] w fun e w' => ∃ A2 c2, e = .returned (.agg (iv R A2 c2)) ∧ IvAt w' R A2 c2 ∧ Below w.heap.size w w' := by
  have l1 := lit_eq hm (l := [102, 108, 111, 111, 114]) rfl
  have l2 := lit_eq hm (l := [104, 97, 108, 102]) rfl
  have l3 := lit_eq hm (l := [101, 118, 101, 110]) rfl
  clear hm
  obtain ⟨q, hq⟩ : ∃ q, q = a.tdiv b := ⟨_, rfl⟩
  obtain ⟨r, hr⟩ : ∃ r, r = a.tmod b := ⟨_, rfl⟩
  have HQ := Lib.hid hq
  have HR := Lib.hid hr
  have HX := Lib.hid hx
  have HY := Lib.hid hy
  have HN := Lib.hid (And.intro hn hn')
  have HB := Lib.hid hb0
  have ngb : ng b = false := by rw [ng_def]; simp; omega
  have HNR : Hid (nl r.natAbs ≤ 200 ∧ nl q.natAbs ≤ 200) := Lib.hid (by rw [hr, hq]; exact ⟨nl_tmod hn, nl_tdiv hn⟩)
  have HN2 : Hid (nl T.natAbs ≤ 400) := Lib.hid (by rw [HTT.out, Int.natAbs_natCast]; exact nl_two hn' (by omega))
  rw [← hr] at HTT
  clear hx hy hn hn' hb0 hq hr
  go_enter Try.func81, Try.ntmps81
  go_upto_region 1 with (fail)
  refine wp_world (fun W => W.heap[w.heap.size]? = some (.cells (iv a A c) 84 (0, 0)) ∧ W.heap[w.heap.size + 1]? = some (.cells (iv b A' c') 84 (0, 0)) ∧ W.heap[w.heap.size + 1 + 1]? = some (.cells (iv 0 none 0) 84 (0, 0)) ∧ Below w.heap.size w W) ⟨ha_old (ha_old (ha_new rfl)), ha_old (ha_new (by simp)), by rw [iv_zero]; exact ha_new (by simp), (((Below.refl _ _).alloc (Nat.le_refl _) _).alloc (by simp) _).alloc (by simp; omega) _⟩ ?_
  rintro W ⟨h0, h1, h2, hb⟩
  have b0 := iv0 h1
  rw [ngb] at b0
  have hX := HX.out.below hb
  have hY := HY.out.below hb
  clear HX HY
  go_upto_region 3 with (fail)
  clear b0
  apply wp_region_lit
  ((with_reducible apply wl_rowG); exact rfl; exact rfl; exact rowIv (by with_reducible assumption))
  ((with_reducible apply wl_rowG); exact rfl; exact rfl; exact rowIv (by with_reducible assumption))
  refine wl_ck rfl (fun K hK => ?_); go_simp; refine ⟨_, _, ⟨rfl, rfl⟩, hK _ _ ⟨_, PartedI_any _ _ _ _ _ _ _ hX hY (by have := HN.out; omega) (by have := HN.out; omega) (by have := HB.out; omega), ?_⟩⟩; clear hK K; rintro e w1 ⟨A2, c2, A3, c3, rfl, hQ, hR, hb1⟩; refine ⟨_, rfl, ?_⟩; simp only [put_lit, List.set_cons_zero, List.set_cons_succ]
  rw [← HQ.out, ← HR.out]
  rw [← HQ.out] at hQ
  rw [← HR.out] at hR
  replace h0 := below_look hb1 h0; replace h1 := below_look hb1 h1; replace h2 := below_look hb1 h2; replace hX := hX.below hb1; replace hY := hY.below hb1; replace hb := hb.trans (hb1.mono hb.size); clear hb1
  refine wl_k rfl (fun K hK => ?_); go_simp; refine hK _ ?_; clear hK K
  refine wl_k rfl (fun K hK => ?_); go_simp; refine hK _ ?_; clear hK K
  refine wl_k rfl (fun K hK => ?_); go_simp; refine hK _ ?_; clear hK K
  (have lth0p7 := heap_lt h0; have lth1p7 := heap_lt h1; have lth2p7 := heap_lt h2; have lsp7 := hb.size; (with_reducible apply wl_new84); intro w2 p7 hbn hlp7 hp7; replace h0 := below_look hbn h0; replace h1 := below_look hbn h1; replace h2 := below_look hbn h2; replace hX := hX.below hbn; replace hY := hY.below hbn; replace hQ := hQ.below hbn; replace hR := hR.below hbn; replace hb := hb.trans (hbn.mono hb.size); clear hbn)
  (have lth0p8 := heap_lt h0; have lth1p8 := heap_lt h1; have lth2p8 := heap_lt h2; have lthp7p8 := heap_lt hp7; have lsp8 := hb.size; (with_reducible apply wl_new84); intro w3 p8 hbn hlp8 hp8; replace h0 := below_look hbn h0; replace h1 := below_look hbn h1; replace h2 := below_look hbn h2; replace hp7 := below_look hbn hp7; replace hX := hX.below hbn; replace hY := hY.below hbn; replace hQ := hQ.below hbn; replace hR := hR.below hbn; replace hb := hb.trans (hbn.mono hb.size); clear hbn)
  ((with_reducible apply wl_putI); exact rfl; exact rfl; exact hp7; intro w4 hbx hk hq hi; replace h0 := hk _ _ (by omega) h0; replace h1 := hk _ _ (by omega) h1; replace h2 := hk _ _ (by omega) h2; replace hp8 := hk _ _ (by omega) hp8; replace hX := hi _ _ _ hX; replace hY := hi _ _ _ hY; replace hQ := hi _ _ _ hQ; replace hR := hi _ _ _ hR; replace hb := hbx _ _ (by omega) hb; clear hp7; have hp7 := hq; clear hbx hk hq hi)
  ((with_reducible apply wl_putI); exact rfl; exact rfl; exact hp8; intro w5 hbx hk hq hi; replace h0 := hk _ _ (by omega) h0; replace h1 := hk _ _ (by omega) h1; replace h2 := hk _ _ (by omega) h2; replace hp7 := hk _ _ (by omega) hp7; replace hX := hi _ _ _ hX; replace hY := hi _ _ _ hY; replace hQ := hi _ _ _ hQ; replace hR := hi _ _ _ hR; replace hb := hbx _ _ (by omega) hb; clear hp8; have hp8 := hq; clear hbx hk hq hi)
  go_upto_region 4 with (fail)
  have r1 := iv1 hp8
  apply wp_region_lit
  refine wl_k rfl (fun K hK => ?_); go_simp; refine hK _ ?_; clear hK K
  ((with_reducible apply wl_oneG); exact rfl; exact rfl; exact one82 (by with_reducible assumption))
  refine wl_k rfl (fun K hK => ?_); go_simp; refine hK _ ?_; clear hK K
  ((with_reducible apply wl_oneG); exact rfl; exact rfl; exact one82 (by with_reducible assumption))
  clear r1
  refine wl_ck rfl (fun K hK => ?_); go_simp; refine ⟨_, _, ⟨rfl, rfl⟩, hK _ _ ⟨_, plus_any _ _ _ _ _ _ r.natAbs r.natAbs _ hR.2 hR.2 (nl_spec _) (nl_spec _) (by have := HNR.out.1; omega) (by have := HNR.out.1; omega), ?_⟩⟩; clear hK K; rintro e w6 ⟨A4, c4, rfl, hc4, hl4, hb1⟩; refine ⟨_, rfl, ?_⟩; simp only [put_lit, List.set_cons_zero, List.set_cons_succ]
  replace h0 := below_look hb1 h0; replace h1 := below_look hb1 h1; replace h2 := below_look hb1 h2; replace hp7 := below_look hb1 hp7; replace hp8 := below_look hb1 hp8; replace hX := hX.below hb1; replace hY := hY.below hb1; replace hQ := hQ.below hb1; replace hR := hR.below hb1; replace hb := hb.trans (hb1.mono hb.size); clear hb1
  have hT : IvAt w6 T A4 c4 := IvAt.of _ (by rw [HTT.out]; exact Int.natAbs_natCast _) hc4 hl4
  clear hc4 hl4
  refine wl_ck rfl (fun K hK => ?_); go_simp; refine ⟨_, _, ⟨rfl, rfl⟩, hK _ _ ⟨_, signedI_any false A4 (r.natAbs + r.natAbs) c4 _, ?_⟩⟩; clear hK K; rintro e w7 ⟨rfl, hb1⟩; refine ⟨_, rfl, ?_⟩; simp only [put_lit, List.set_cons_zero, List.set_cons_succ]
  rw [show sg false (r.natAbs + r.natAbs) = T from HTT.out.symm]
  replace h0 := below_look hb1 h0; replace h1 := below_look hb1 h1; replace h2 := below_look hb1 h2; replace hp7 := below_look hb1 hp7; replace hp8 := below_look hb1 hp8; replace hX := hX.below hb1; replace hY := hY.below hb1; replace hQ := hQ.below hb1; replace hR := hR.below hb1; replace hT := hT.below hb1; replace hb := hb.trans (hb1.mono hb.size); clear hb1
  (have lth0p9 := heap_lt h0; have lth1p9 := heap_lt h1; have lth2p9 := heap_lt h2; have lthp7p9 := heap_lt hp7; have lthp8p9 := heap_lt hp8; have lsp9 := hb.size; (with_reducible apply wl_new84); intro w8 p9 hbn hlp9 hp9; replace h0 := below_look hbn h0; replace h1 := below_look hbn h1; replace h2 := below_look hbn h2; replace hp7 := below_look hbn hp7; replace hp8 := below_look hbn hp8; replace hX := hX.below hbn; replace hY := hY.below hbn; replace hQ := hQ.below hbn; replace hR := hR.below hbn; replace hT := hT.below hbn; replace hb := hb.trans (hbn.mono hb.size); clear hbn)
  ((with_reducible apply wl_putI); exact rfl; exact rfl; exact hp9; intro w9 hbx hk hq hi; replace h0 := hk _ _ (by omega) h0; replace h1 := hk _ _ (by omega) h1; replace h2 := hk _ _ (by omega) h2; replace hp7 := hk _ _ (by omega) hp7; replace hp8 := hk _ _ (by omega) hp8; replace hX := hi _ _ _ hX; replace hY := hi _ _ _ hY; replace hQ := hi _ _ _ hQ; replace hR := hi _ _ _ hR; replace hT := hi _ _ _ hT; replace hb := hbx _ _ (by omega) hb; clear hp9; have hp9 := hq; clear hbx hk hq hi)
  go_upto_region 6 with (fail)
  rw [← HQ.out, ← HR.out] at HS
  go_upto_region 14 with (fail)
  apply wp_region_lit
  ((with_reducible apply wl_rowG); exact rfl; exact rfl; exact rowIv (by with_reducible assumption))
  ((with_reducible apply wl_putI); exact rfl; exact rfl; exact h2; intro w21 hbx hk hq hi; replace hQ := hi _ _ _ hQ; replace hb := hbx _ _ (by omega) hb; clear h2; have h2 := hq; clear hbx hk hq hi)
  go_wp2_with fail
  rw [(HS.out.1 rfl)]
  exact bodyPost_ret (res_iv rfl _ _ (w.heap.size + 1 + 1) rfl h2) rfl ⟨A2, c2, rfl, hQ, hb⟩
set_option maxHeartbeats 4000000 in
set_option maxRecDepth 100000 in
theorem roundedI_floor (a b : Int) (A A' : Option Addr) (c c' : Nat) (m : ByteArray) (w : World) (hx : IvAt w a A c) (hy : IvAt w b A' c') (hn : nl a.natAbs ≤ 200) (hn' : nl b.natAbs ≤ 200) (hb0 : 0 < b) (T : Int) (HTT : Hid (T = (((a.tmod b).natAbs + (a.tmod b).natAbs : Nat) : Int))) (hm : m.data.toList = [102, 108, 111, 111, 114]) (R : Int) (HS : Hid (RsOf (ng (a.tmod b)) R (a.tdiv b) (a.tmod b))) :
    Calls Try.prog 81 #[.agg (iv a A c), .agg (iv b A' c'), .string m] w fun e w' => ∃ A2 c2, e = .returned (.agg (iv R A2 c2)) ∧ IvAt w' R A2 c2 ∧ Below w.heap.size w w' := by
  have l1 := lit_eq hm (l := [102, 108, 111, 111, 114]) rfl
  have l2 := lit_eq hm (l := [104, 97, 108, 102]) rfl
  have l3 := lit_eq hm (l := [101, 118, 101, 110]) rfl
  clear hm
  obtain ⟨q, hq⟩ : ∃ q, q = a.tdiv b := ⟨_, rfl⟩
  obtain ⟨r, hr⟩ : ∃ r, r = a.tmod b := ⟨_, rfl⟩
  have HQ := Lib.hid hq
  have HR := Lib.hid hr
  have HX := Lib.hid hx
  have HY := Lib.hid hy
  have HN := Lib.hid (And.intro hn hn')
  have HB := Lib.hid hb0
  have ngb : ng b = false := by rw [ng_def]; simp; omega
  have HNR : Hid (nl r.natAbs ≤ 200 ∧ nl q.natAbs ≤ 200) := Lib.hid (by rw [hr, hq]; exact ⟨nl_tmod hn, nl_tdiv hn⟩)
  have HN2 : Hid (nl T.natAbs ≤ 400) := Lib.hid (by rw [HTT.out, Int.natAbs_natCast]; exact nl_two hn' (by omega))
  rw [← hr] at HTT
  clear hx hy hn hn' hb0 hq hr
  go_enter Try.func81, Try.ntmps81
  go_upto_region 1 with (fail)
  refine wp_world (fun W => W.heap[w.heap.size]? = some (.cells (iv a A c) 84 (0, 0)) ∧ W.heap[w.heap.size + 1]? = some (.cells (iv b A' c') 84 (0, 0)) ∧ W.heap[w.heap.size + 1 + 1]? = some (.cells (iv 0 none 0) 84 (0, 0)) ∧ Below w.heap.size w W) ⟨ha_old (ha_old (ha_new rfl)), ha_old (ha_new (by simp)), by rw [iv_zero]; exact ha_new (by simp), (((Below.refl _ _).alloc (Nat.le_refl _) _).alloc (by simp) _).alloc (by simp; omega) _⟩ ?_
  rintro W ⟨h0, h1, h2, hb⟩
  have b0 := iv0 h1
  rw [ngb] at b0
  have hX := HX.out.below hb
  have hY := HY.out.below hb
  clear HX HY
  go_upto_region 3 with (fail)
  clear b0
  apply wp_region_lit
  ((with_reducible apply wl_rowG); exact rfl; exact rfl; exact rowIv (by with_reducible assumption))
  ((with_reducible apply wl_rowG); exact rfl; exact rfl; exact rowIv (by with_reducible assumption))
  refine wl_ck rfl (fun K hK => ?_); go_simp; refine ⟨_, _, ⟨rfl, rfl⟩, hK _ _ ⟨_, PartedI_any _ _ _ _ _ _ _ hX hY (by have := HN.out; omega) (by have := HN.out; omega) (by have := HB.out; omega), ?_⟩⟩; clear hK K; rintro e w1 ⟨A2, c2, A3, c3, rfl, hQ, hR, hb1⟩; refine ⟨_, rfl, ?_⟩; simp only [put_lit, List.set_cons_zero, List.set_cons_succ]
  rw [← HQ.out, ← HR.out]
  rw [← HQ.out] at hQ
  rw [← HR.out] at hR
  replace h0 := below_look hb1 h0; replace h1 := below_look hb1 h1; replace h2 := below_look hb1 h2; replace hX := hX.below hb1; replace hY := hY.below hb1; replace hb := hb.trans (hb1.mono hb.size); clear hb1
  refine wl_k rfl (fun K hK => ?_); go_simp; refine hK _ ?_; clear hK K
  refine wl_k rfl (fun K hK => ?_); go_simp; refine hK _ ?_; clear hK K
  refine wl_k rfl (fun K hK => ?_); go_simp; refine hK _ ?_; clear hK K
  (have lth0p7 := heap_lt h0; have lth1p7 := heap_lt h1; have lth2p7 := heap_lt h2; have lsp7 := hb.size; (with_reducible apply wl_new84); intro w2 p7 hbn hlp7 hp7; replace h0 := below_look hbn h0; replace h1 := below_look hbn h1; replace h2 := below_look hbn h2; replace hX := hX.below hbn; replace hY := hY.below hbn; replace hQ := hQ.below hbn; replace hR := hR.below hbn; replace hb := hb.trans (hbn.mono hb.size); clear hbn)
  (have lth0p8 := heap_lt h0; have lth1p8 := heap_lt h1; have lth2p8 := heap_lt h2; have lthp7p8 := heap_lt hp7; have lsp8 := hb.size; (with_reducible apply wl_new84); intro w3 p8 hbn hlp8 hp8; replace h0 := below_look hbn h0; replace h1 := below_look hbn h1; replace h2 := below_look hbn h2; replace hp7 := below_look hbn hp7; replace hX := hX.below hbn; replace hY := hY.below hbn; replace hQ := hQ.below hbn; replace hR := hR.below hbn; replace hb := hb.trans (hbn.mono hb.size); clear hbn)
  ((with_reducible apply wl_putI); exact rfl; exact rfl; exact hp7; intro w4 hbx hk hq hi; replace h0 := hk _ _ (by omega) h0; replace h1 := hk _ _ (by omega) h1; replace h2 := hk _ _ (by omega) h2; replace hp8 := hk _ _ (by omega) hp8; replace hX := hi _ _ _ hX; replace hY := hi _ _ _ hY; replace hQ := hi _ _ _ hQ; replace hR := hi _ _ _ hR; replace hb := hbx _ _ (by omega) hb; clear hp7; have hp7 := hq; clear hbx hk hq hi)
  ((with_reducible apply wl_putI); exact rfl; exact rfl; exact hp8; intro w5 hbx hk hq hi; replace h0 := hk _ _ (by omega) h0; replace h1 := hk _ _ (by omega) h1; replace h2 := hk _ _ (by omega) h2; replace hp7 := hk _ _ (by omega) hp7; replace hX := hi _ _ _ hX; replace hY := hi _ _ _ hY; replace hQ := hi _ _ _ hQ; replace hR := hi _ _ _ hR; replace hb := hbx _ _ (by omega) hb; clear hp8; have hp8 := hq; clear hbx hk hq hi)
  go_upto_region 4 with (fail)
  have r1 := iv1 hp8
  apply wp_region_lit
  refine wl_k rfl (fun K hK => ?_); go_simp; refine hK _ ?_; clear hK K
  ((with_reducible apply wl_oneG); exact rfl; exact rfl; exact one82 (by with_reducible assumption))
  refine wl_k rfl (fun K hK => ?_); go_simp; refine hK _ ?_; clear hK K
  ((with_reducible apply wl_oneG); exact rfl; exact rfl; exact one82 (by with_reducible assumption))
  clear r1
  refine wl_ck rfl (fun K hK => ?_); go_simp; refine ⟨_, _, ⟨rfl, rfl⟩, hK _ _ ⟨_, plus_any _ _ _ _ _ _ r.natAbs r.natAbs _ hR.2 hR.2 (nl_spec _) (nl_spec _) (by have := HNR.out.1; omega) (by have := HNR.out.1; omega), ?_⟩⟩; clear hK K; rintro e w6 ⟨A4, c4, rfl, hc4, hl4, hb1⟩; refine ⟨_, rfl, ?_⟩; simp only [put_lit, List.set_cons_zero, List.set_cons_succ]
  replace h0 := below_look hb1 h0; replace h1 := below_look hb1 h1; replace h2 := below_look hb1 h2; replace hp7 := below_look hb1 hp7; replace hp8 := below_look hb1 hp8; replace hX := hX.below hb1; replace hY := hY.below hb1; replace hQ := hQ.below hb1; replace hR := hR.below hb1; replace hb := hb.trans (hb1.mono hb.size); clear hb1
  have hT : IvAt w6 T A4 c4 := IvAt.of _ (by rw [HTT.out]; exact Int.natAbs_natCast _) hc4 hl4
  clear hc4 hl4
  refine wl_ck rfl (fun K hK => ?_); go_simp; refine ⟨_, _, ⟨rfl, rfl⟩, hK _ _ ⟨_, signedI_any false A4 (r.natAbs + r.natAbs) c4 _, ?_⟩⟩; clear hK K; rintro e w7 ⟨rfl, hb1⟩; refine ⟨_, rfl, ?_⟩; simp only [put_lit, List.set_cons_zero, List.set_cons_succ]
  rw [show sg false (r.natAbs + r.natAbs) = T from HTT.out.symm]
  replace h0 := below_look hb1 h0; replace h1 := below_look hb1 h1; replace h2 := below_look hb1 h2; replace hp7 := below_look hb1 hp7; replace hp8 := below_look hb1 hp8; replace hX := hX.below hb1; replace hY := hY.below hb1; replace hQ := hQ.below hb1; replace hR := hR.below hb1; replace hT := hT.below hb1; replace hb := hb.trans (hb1.mono hb.size); clear hb1
  (have lth0p9 := heap_lt h0; have lth1p9 := heap_lt h1; have lth2p9 := heap_lt h2; have lthp7p9 := heap_lt hp7; have lthp8p9 := heap_lt hp8; have lsp9 := hb.size; (with_reducible apply wl_new84); intro w8 p9 hbn hlp9 hp9; replace h0 := below_look hbn h0; replace h1 := below_look hbn h1; replace h2 := below_look hbn h2; replace hp7 := below_look hbn hp7; replace hp8 := below_look hbn hp8; replace hX := hX.below hbn; replace hY := hY.below hbn; replace hQ := hQ.below hbn; replace hR := hR.below hbn; replace hT := hT.below hbn; replace hb := hb.trans (hbn.mono hb.size); clear hbn)
  ((with_reducible apply wl_putI); exact rfl; exact rfl; exact hp9; intro w9 hbx hk hq hi; replace h0 := hk _ _ (by omega) h0; replace h1 := hk _ _ (by omega) h1; replace h2 := hk _ _ (by omega) h2; replace hp7 := hk _ _ (by omega) hp7; replace hp8 := hk _ _ (by omega) hp8; replace hX := hi _ _ _ hX; replace hY := hi _ _ _ hY; replace hQ := hi _ _ _ hQ; replace hR := hi _ _ _ hR; replace hT := hi _ _ _ hT; replace hb := hbx _ _ (by omega) hb; clear hp9; have hp9 := hq; clear hbx hk hq hi)
  go_upto_region 6 with (fail)
  rw [← HQ.out, ← HR.out] at HS
  have r0 := iv0 hp8
  have r1 := iv1 hp8
  cases hg : ng r
  · rw [hg] at r0 HS
    clear r1
    go_upto_region 14 with (fail)
    apply wp_region_lit
    ((with_reducible apply wl_rowG); exact rfl; exact rfl; exact rowIv (by with_reducible assumption))
    ((with_reducible apply wl_putI); exact rfl; exact rfl; exact h2; intro w21 hbx hk hq hi; replace hQ := hi _ _ _ hQ; replace hb := hbx _ _ (by omega) hb; clear h2; have h2 := hq; clear hbx hk hq hi)
    go_wp2_with fail
    rw [(HS.out.1 rfl)]
    exact bodyPost_ret (res_iv rfl _ _ (w.heap.size + 1 + 1) rfl h2) rfl ⟨A2, c2, rfl, hQ, hb⟩
  · rw [hg] at r0 HS
    have hr0 : Hid (r < 0) := Lib.hid (by rw [ng_def] at hg; simpa using hg)
    have hz := nl_pos' (n := r.natAbs) (by have := hr0.out; omega)
    clear hg
    go_upto_region 16 with (fail)
    clear r0 r1
    replace hQ := hQ.below (Below.refl _ _).drew
    replace hb := hb.drew
    have HRR := Lib.hid ((HS.out.2 rfl).1 hr0.out)
    have n1 : nl (1 : Int).natAbs ≤ 1 := (by show nl 1 ≤ 1; rw [nl_one]; omega)
    refine wp_region_held_drew (S := Kept [w.heap.size + 1 + 1] w9) mixed (Kept.drew [w.heap.size + 1 + 1] w9) (fun hS => ?_)
    refine ha_val (i := 0) rfl (by kernel_rfl) (by kernel_rfl) (by kernel_rfl) (fun _ _ _ h => h) hS rfl (fun w' hw' => ex_row rfl (rowIv (hw'.look hp7 (by simp <;> omega)))) ?_; try simp only [put_lit, List.set_cons_zero, List.set_cons_succ]
    refine ha_call (i := 1) (by kernel_rfl) rfl rfl (fun K hK => ?_); go_simp; refine ⟨_, _, ⟨rfl, rfl⟩, hK _ _ ⟨_, Of_any 1 (by decide) (by decide) _, ?_⟩⟩; clear hK K; rintro e w20 ⟨A5, c5, rfl, hO, hb1⟩; refine ⟨_, rfl, hS.below hb1, ?_⟩; replace hS := hS.below hb1; replace h2 := below_look hb1 h2; replace hQ := hQ.below hb1; replace hb := hb.trans (hb1.mono hb.size); clear hb1; try simp only [put_lit, List.set_cons_zero, List.set_cons_succ]
    refine ha_call (i := 2) (by kernel_rfl) rfl rfl (fun K hK => ?_); go_simp; refine ⟨_, _, ⟨rfl, rfl⟩, hK _ _ ⟨_, MinusI_any q 1 _ _ _ _ _ hQ hO (by have := HNR.out.2; omega) (by omega), ?_⟩⟩; clear hK K; rintro e w21 ⟨A6, c6, rfl, hI, hb1⟩; refine ⟨_, rfl, hS.below hb1, ?_⟩; replace hS := hS.below hb1; replace h2 := below_look hb1 h2; replace hb := hb.trans (hb1.mono hb.size); clear hb1; try simp only [put_lit, List.set_cons_zero, List.set_cons_succ]
    refine ha_store (i := 3) (by kernel_rfl) rfl rfl 84 _ _ rfl _ (iv (q - 1) A6 c6) rfl rfl 84 _ h2 info84 rfl (iv_one _ _ _) (hS.setRow (by simp) _) (fun hS => ?_); try simp only [put_lit, List.set_cons_zero, List.set_cons_succ]
    refine wpAnyH_done (by kernel_rfl) ?_ _
    go_wp2_with fail
    rw [HRR.out]
    exact bodyPost_ret (res_iv rfl _ _ (w.heap.size + 1 + 1) rfl (hr_new h2)) rfl ⟨A6, c6, rfl, hI.put h2 _, below_setRow hb (by omega) _⟩
set_option maxHeartbeats 4000000 in
set_option maxRecDepth 100000 in
theorem roundedI_half (a b : Int) (A A' : Option Addr) (c c' : Nat) (m : ByteArray) (w : World) (hx : IvAt w a A c) (hy : IvAt w b A' c') (hn : nl a.natAbs ≤ 200) (hn' : nl b.natAbs ≤ 200) (hb0 : 0 < b) (T : Int) (HTT : Hid (T = (((a.tmod b).natAbs + (a.tmod b).natAbs : Nat) : Int))) (hm : m.data.toList = [104, 97, 108, 102]) (U : Bool) (R C : Int) (HS : Hid (RsOf U R (a.tdiv b) (a.tmod b))) (HC : Hid (C = cz T b)) (hU : U = decide (0 ≤ C)) (HU : Hid (U = true → a.tmod b ≠ 0)) :
    Calls Try.prog 81 #[.agg (iv a A c), .agg (iv b A' c'), .string m] w fun e w' => ∃ A2 c2, e = .returned (.agg (iv R A2 c2)) ∧ IvAt w' R A2 c2 ∧ Below w.heap.size w w' := by
  have l1 := lit_eq hm (l := [102, 108, 111, 111, 114]) rfl
  have l2 := lit_eq hm (l := [104, 97, 108, 102]) rfl
  have l3 := lit_eq hm (l := [101, 118, 101, 110]) rfl
  clear hm
  obtain ⟨q, hq⟩ : ∃ q, q = a.tdiv b := ⟨_, rfl⟩
  obtain ⟨r, hr⟩ : ∃ r, r = a.tmod b := ⟨_, rfl⟩
  have HQ := Lib.hid hq
  have HR := Lib.hid hr
  have HX := Lib.hid hx
  have HY := Lib.hid hy
  have HN := Lib.hid (And.intro hn hn')
  have HB := Lib.hid hb0
  have ngb : ng b = false := by rw [ng_def]; simp; omega
  have HNR : Hid (nl r.natAbs ≤ 200 ∧ nl q.natAbs ≤ 200) := Lib.hid (by rw [hr, hq]; exact ⟨nl_tmod hn, nl_tdiv hn⟩)
  have HN2 : Hid (nl T.natAbs ≤ 400) := Lib.hid (by rw [HTT.out, Int.natAbs_natCast]; exact nl_two hn' (by omega))
  rw [← hr] at HTT
  clear hx hy hn hn' hb0 hq hr
  go_enter Try.func81, Try.ntmps81
  go_upto_region 1 with (fail)
  refine wp_world (fun W => W.heap[w.heap.size]? = some (.cells (iv a A c) 84 (0, 0)) ∧ W.heap[w.heap.size + 1]? = some (.cells (iv b A' c') 84 (0, 0)) ∧ W.heap[w.heap.size + 1 + 1]? = some (.cells (iv 0 none 0) 84 (0, 0)) ∧ Below w.heap.size w W) ⟨ha_old (ha_old (ha_new rfl)), ha_old (ha_new (by simp)), by rw [iv_zero]; exact ha_new (by simp), (((Below.refl _ _).alloc (Nat.le_refl _) _).alloc (by simp) _).alloc (by simp; omega) _⟩ ?_
  rintro W ⟨h0, h1, h2, hb⟩
  have b0 := iv0 h1
  rw [ngb] at b0
  have hX := HX.out.below hb
  have hY := HY.out.below hb
  clear HX HY
  go_upto_region 3 with (fail)
  clear b0
  apply wp_region_lit
  ((with_reducible apply wl_rowG); exact rfl; exact rfl; exact rowIv (by with_reducible assumption))
  ((with_reducible apply wl_rowG); exact rfl; exact rfl; exact rowIv (by with_reducible assumption))
  refine wl_ck rfl (fun K hK => ?_); go_simp; refine ⟨_, _, ⟨rfl, rfl⟩, hK _ _ ⟨_, PartedI_any _ _ _ _ _ _ _ hX hY (by have := HN.out; omega) (by have := HN.out; omega) (by have := HB.out; omega), ?_⟩⟩; clear hK K; rintro e w1 ⟨A2, c2, A3, c3, rfl, hQ, hR, hb1⟩; refine ⟨_, rfl, ?_⟩; simp only [put_lit, List.set_cons_zero, List.set_cons_succ]
  rw [← HQ.out, ← HR.out]
  rw [← HQ.out] at hQ
  rw [← HR.out] at hR
  replace h0 := below_look hb1 h0; replace h1 := below_look hb1 h1; replace h2 := below_look hb1 h2; replace hX := hX.below hb1; replace hY := hY.below hb1; replace hb := hb.trans (hb1.mono hb.size); clear hb1
  refine wl_k rfl (fun K hK => ?_); go_simp; refine hK _ ?_; clear hK K
  refine wl_k rfl (fun K hK => ?_); go_simp; refine hK _ ?_; clear hK K
  refine wl_k rfl (fun K hK => ?_); go_simp; refine hK _ ?_; clear hK K
  (have lth0p7 := heap_lt h0; have lth1p7 := heap_lt h1; have lth2p7 := heap_lt h2; have lsp7 := hb.size; (with_reducible apply wl_new84); intro w2 p7 hbn hlp7 hp7; replace h0 := below_look hbn h0; replace h1 := below_look hbn h1; replace h2 := below_look hbn h2; replace hX := hX.below hbn; replace hY := hY.below hbn; replace hQ := hQ.below hbn; replace hR := hR.below hbn; replace hb := hb.trans (hbn.mono hb.size); clear hbn)
  (have lth0p8 := heap_lt h0; have lth1p8 := heap_lt h1; have lth2p8 := heap_lt h2; have lthp7p8 := heap_lt hp7; have lsp8 := hb.size; (with_reducible apply wl_new84); intro w3 p8 hbn hlp8 hp8; replace h0 := below_look hbn h0; replace h1 := below_look hbn h1; replace h2 := below_look hbn h2; replace hp7 := below_look hbn hp7; replace hX := hX.below hbn; replace hY := hY.below hbn; replace hQ := hQ.below hbn; replace hR := hR.below hbn; replace hb := hb.trans (hbn.mono hb.size); clear hbn)
  ((with_reducible apply wl_putI); exact rfl; exact rfl; exact hp7; intro w4 hbx hk hq hi; replace h0 := hk _ _ (by omega) h0; replace h1 := hk _ _ (by omega) h1; replace h2 := hk _ _ (by omega) h2; replace hp8 := hk _ _ (by omega) hp8; replace hX := hi _ _ _ hX; replace hY := hi _ _ _ hY; replace hQ := hi _ _ _ hQ; replace hR := hi _ _ _ hR; replace hb := hbx _ _ (by omega) hb; clear hp7; have hp7 := hq; clear hbx hk hq hi)
  ((with_reducible apply wl_putI); exact rfl; exact rfl; exact hp8; intro w5 hbx hk hq hi; replace h0 := hk _ _ (by omega) h0; replace h1 := hk _ _ (by omega) h1; replace h2 := hk _ _ (by omega) h2; replace hp7 := hk _ _ (by omega) hp7; replace hX := hi _ _ _ hX; replace hY := hi _ _ _ hY; replace hQ := hi _ _ _ hQ; replace hR := hi _ _ _ hR; replace hb := hbx _ _ (by omega) hb; clear hp8; have hp8 := hq; clear hbx hk hq hi)
  go_upto_region 4 with (fail)
  have r1 := iv1 hp8
  apply wp_region_lit
  refine wl_k rfl (fun K hK => ?_); go_simp; refine hK _ ?_; clear hK K
  ((with_reducible apply wl_oneG); exact rfl; exact rfl; exact one82 (by with_reducible assumption))
  refine wl_k rfl (fun K hK => ?_); go_simp; refine hK _ ?_; clear hK K
  ((with_reducible apply wl_oneG); exact rfl; exact rfl; exact one82 (by with_reducible assumption))
  clear r1
  refine wl_ck rfl (fun K hK => ?_); go_simp; refine ⟨_, _, ⟨rfl, rfl⟩, hK _ _ ⟨_, plus_any _ _ _ _ _ _ r.natAbs r.natAbs _ hR.2 hR.2 (nl_spec _) (nl_spec _) (by have := HNR.out.1; omega) (by have := HNR.out.1; omega), ?_⟩⟩; clear hK K; rintro e w6 ⟨A4, c4, rfl, hc4, hl4, hb1⟩; refine ⟨_, rfl, ?_⟩; simp only [put_lit, List.set_cons_zero, List.set_cons_succ]
  replace h0 := below_look hb1 h0; replace h1 := below_look hb1 h1; replace h2 := below_look hb1 h2; replace hp7 := below_look hb1 hp7; replace hp8 := below_look hb1 hp8; replace hX := hX.below hb1; replace hY := hY.below hb1; replace hQ := hQ.below hb1; replace hR := hR.below hb1; replace hb := hb.trans (hb1.mono hb.size); clear hb1
  have hT : IvAt w6 T A4 c4 := IvAt.of _ (by rw [HTT.out]; exact Int.natAbs_natCast _) hc4 hl4
  clear hc4 hl4
  refine wl_ck rfl (fun K hK => ?_); go_simp; refine ⟨_, _, ⟨rfl, rfl⟩, hK _ _ ⟨_, signedI_any false A4 (r.natAbs + r.natAbs) c4 _, ?_⟩⟩; clear hK K; rintro e w7 ⟨rfl, hb1⟩; refine ⟨_, rfl, ?_⟩; simp only [put_lit, List.set_cons_zero, List.set_cons_succ]
  rw [show sg false (r.natAbs + r.natAbs) = T from HTT.out.symm]
  replace h0 := below_look hb1 h0; replace h1 := below_look hb1 h1; replace h2 := below_look hb1 h2; replace hp7 := below_look hb1 hp7; replace hp8 := below_look hb1 hp8; replace hX := hX.below hb1; replace hY := hY.below hb1; replace hQ := hQ.below hb1; replace hR := hR.below hb1; replace hT := hT.below hb1; replace hb := hb.trans (hb1.mono hb.size); clear hb1
  (have lth0p9 := heap_lt h0; have lth1p9 := heap_lt h1; have lth2p9 := heap_lt h2; have lthp7p9 := heap_lt hp7; have lthp8p9 := heap_lt hp8; have lsp9 := hb.size; (with_reducible apply wl_new84); intro w8 p9 hbn hlp9 hp9; replace h0 := below_look hbn h0; replace h1 := below_look hbn h1; replace h2 := below_look hbn h2; replace hp7 := below_look hbn hp7; replace hp8 := below_look hbn hp8; replace hX := hX.below hbn; replace hY := hY.below hbn; replace hQ := hQ.below hbn; replace hR := hR.below hbn; replace hT := hT.below hbn; replace hb := hb.trans (hbn.mono hb.size); clear hbn)
  ((with_reducible apply wl_putI); exact rfl; exact rfl; exact hp9; intro w9 hbx hk hq hi; replace h0 := hk _ _ (by omega) h0; replace h1 := hk _ _ (by omega) h1; replace h2 := hk _ _ (by omega) h2; replace hp7 := hk _ _ (by omega) hp7; replace hp8 := hk _ _ (by omega) hp8; replace hX := hi _ _ _ hX; replace hY := hi _ _ _ hY; replace hQ := hi _ _ _ hQ; replace hR := hi _ _ _ hR; replace hT := hi _ _ _ hT; replace hb := hbx _ _ (by omega) hb; clear hp9; have hp9 := hq; clear hbx hk hq hi)
  go_upto_region 6 with (fail)
  rw [← HQ.out, ← HR.out] at HS
  rw [← HR.out] at HU
  go_upto_region 10 with (fail)
  apply wp_region_lit
  ((with_reducible apply wl_rowG); exact rfl; exact rfl; exact rowIv (by with_reducible assumption))
  ((with_reducible apply wl_rowG); exact rfl; exact rfl; exact rowIv (by with_reducible assumption))
  refine wl_ck rfl (fun K hK => ?_); go_simp; refine ⟨_, _, ⟨rfl, rfl⟩, hK _ _ ⟨_, CmpI_any _ _ _ _ _ _ _ hT hY HN2.out, ?_⟩⟩; clear hK K; rintro e w10 ⟨rfl, hb1⟩; refine ⟨_, rfl, ?_⟩; simp only [put_lit, List.set_cons_zero, List.set_cons_succ]
  replace h0 := below_look hb1 h0; replace h1 := below_look hb1 h1; replace h2 := below_look hb1 h2; replace hp7 := below_look hb1 hp7; replace hp8 := below_look hb1 hp8; replace hp9 := below_look hb1 hp9; replace hX := hX.below hb1; replace hY := hY.below hb1; replace hQ := hQ.below hb1; replace hR := hR.below hb1; replace hT := hT.below hb1; replace hb := hb.trans (hb1.mono hb.size); clear hb1
  rw [← HC.out]
  have r0 := iv0 hp8
  have r1 := iv1 hp8
  cases U
  · have hc : ¬ 0 ≤ C := by simpa using hU
    clear hU
    go_upto_region 14 with (fail)
    apply wp_region_lit
    ((with_reducible apply wl_rowG); exact rfl; exact rfl; exact rowIv (by with_reducible assumption))
    ((with_reducible apply wl_putI); exact rfl; exact rfl; exact h2; intro w21 hbx hk hq hi; replace hQ := hi _ _ _ hQ; replace hb := hbx _ _ (by omega) hb; clear h2; have h2 := hq; clear hbx hk hq hi)
    go_wp2_with fail
    rw [(HS.out.1 rfl)]
    exact bodyPost_ret (res_iv rfl _ _ (w.heap.size + 1 + 1) rfl h2) rfl ⟨A2, c2, rfl, hQ, hb⟩
  · have hc : 0 ≤ C := by simpa using hU
    clear hU
    by_cases hs : r < 0
    · have hr0 := Lib.hid hs
      have hg : ng r = true := by rw [ng_def]; simpa using hs
      rw [hg] at r0
      have hz := nl_pos' (n := r.natAbs) (by omega)
      clear hg hs
      go_upto_region 16 with (fail)
      clear r0 r1
      replace hQ := hQ.below (Below.refl _ _).drew
      replace hb := hb.drew
      have HRR := Lib.hid ((HS.out.2 rfl).1 hr0.out)
      have n1 : nl (1 : Int).natAbs ≤ 1 := (by show nl 1 ≤ 1; rw [nl_one]; omega)
      refine wp_region_held_drew (S := Kept [w.heap.size + 1 + 1] w10) mixed (Kept.drew [w.heap.size + 1 + 1] w10) (fun hS => ?_)
      refine ha_val (i := 0) rfl (by kernel_rfl) (by kernel_rfl) (by kernel_rfl) (fun _ _ _ h => h) hS rfl (fun w' hw' => ex_row rfl (rowIv (hw'.look hp7 (by simp <;> omega)))) ?_; try simp only [put_lit, List.set_cons_zero, List.set_cons_succ]
      refine ha_call (i := 1) (by kernel_rfl) rfl rfl (fun K hK => ?_); go_simp; refine ⟨_, _, ⟨rfl, rfl⟩, hK _ _ ⟨_, Of_any 1 (by decide) (by decide) _, ?_⟩⟩; clear hK K; rintro e w20 ⟨A5, c5, rfl, hO, hb1⟩; refine ⟨_, rfl, hS.below hb1, ?_⟩; replace hS := hS.below hb1; replace h2 := below_look hb1 h2; replace hQ := hQ.below hb1; replace hb := hb.trans (hb1.mono hb.size); clear hb1; try simp only [put_lit, List.set_cons_zero, List.set_cons_succ]
      refine ha_call (i := 2) (by kernel_rfl) rfl rfl (fun K hK => ?_); go_simp; refine ⟨_, _, ⟨rfl, rfl⟩, hK _ _ ⟨_, MinusI_any q 1 _ _ _ _ _ hQ hO (by have := HNR.out.2; omega) (by omega), ?_⟩⟩; clear hK K; rintro e w21 ⟨A6, c6, rfl, hI, hb1⟩; refine ⟨_, rfl, hS.below hb1, ?_⟩; replace hS := hS.below hb1; replace h2 := below_look hb1 h2; replace hb := hb.trans (hb1.mono hb.size); clear hb1; try simp only [put_lit, List.set_cons_zero, List.set_cons_succ]
      refine ha_store (i := 3) (by kernel_rfl) rfl rfl 84 _ _ rfl _ (iv (q - 1) A6 c6) rfl rfl 84 _ h2 info84 rfl (iv_one _ _ _) (hS.setRow (by simp) _) (fun hS => ?_); try simp only [put_lit, List.set_cons_zero, List.set_cons_succ]
      refine wpAnyH_done (by kernel_rfl) ?_ _
      go_wp2_with fail
      rw [HRR.out]
      exact bodyPost_ret (res_iv rfl _ _ (w.heap.size + 1 + 1) rfl (hr_new h2)) rfl ⟨A6, c6, rfl, hI.put h2 _, below_setRow hb (by omega) _⟩
    · have hr0 : Hid (0 < r) := Lib.hid (by have := HU.out rfl; omega)
      have hg : ng r = false := by rw [ng_def]; simpa using hs
      rw [hg] at r0
      have hz := nl_pos' (n := r.natAbs) (by have := hr0.out; omega)
      clear hg hs
      go_upto_region 17 with (fail)
      clear r0 r1
      replace hQ := hQ.below (Below.refl _ _).drew
      replace hb := hb.drew
      have HRR := Lib.hid ((HS.out.2 rfl).2 hr0.out)
      have n1 : nl (1 : Int).natAbs ≤ 1 := (by show nl 1 ≤ 1; rw [nl_one]; omega)
      refine wp_region_held_drew (S := Kept [w.heap.size + 1 + 1] w10) mixed (Kept.drew [w.heap.size + 1 + 1] w10) (fun hS => ?_)
      refine ha_val (i := 0) rfl (by kernel_rfl) (by kernel_rfl) (by kernel_rfl) (fun _ _ _ h => h) hS rfl (fun w' hw' => ex_row rfl (rowIv (hw'.look hp7 (by simp <;> omega)))) ?_; try simp only [put_lit, List.set_cons_zero, List.set_cons_succ]
      refine ha_call (i := 1) (by kernel_rfl) rfl rfl (fun K hK => ?_); go_simp; refine ⟨_, _, ⟨rfl, rfl⟩, hK _ _ ⟨_, Of_any 1 (by decide) (by decide) _, ?_⟩⟩; clear hK K; rintro e w20 ⟨A5, c5, rfl, hO, hb1⟩; refine ⟨_, rfl, hS.below hb1, ?_⟩; replace hS := hS.below hb1; replace h2 := below_look hb1 h2; replace hQ := hQ.below hb1; replace hb := hb.trans (hb1.mono hb.size); clear hb1; try simp only [put_lit, List.set_cons_zero, List.set_cons_succ]
      refine ha_call (i := 2) (by kernel_rfl) rfl rfl (fun K hK => ?_); go_simp; refine ⟨_, _, ⟨rfl, rfl⟩, hK _ _ ⟨_, Sum2_any q 1 _ _ _ _ _ hQ hO (by have := HNR.out.2; omega) (by omega), ?_⟩⟩; clear hK K; rintro e w21 ⟨A6, c6, rfl, hI, hb1⟩; refine ⟨_, rfl, hS.below hb1, ?_⟩; replace hS := hS.below hb1; replace h2 := below_look hb1 h2; replace hb := hb.trans (hb1.mono hb.size); clear hb1; try simp only [put_lit, List.set_cons_zero, List.set_cons_succ]
      refine ha_store (i := 3) (by kernel_rfl) rfl rfl 84 _ _ rfl _ (iv (q + 1) A6 c6) rfl rfl 84 _ h2 info84 rfl (iv_one _ _ _) (hS.setRow (by simp) _) (fun hS => ?_); try simp only [put_lit, List.set_cons_zero, List.set_cons_succ]
      refine wpAnyH_done (by kernel_rfl) ?_ _
      go_wp2_with fail
      rw [HRR.out]
      exact bodyPost_ret (res_iv rfl _ _ (w.heap.size + 1 + 1) rfl (hr_new h2)) rfl ⟨A6, c6, rfl, hI.put h2 _, below_setRow hb (by omega) _⟩
end Go.Proofs.Ytclainfdeghgnaa

namespace Go.Proofs.Ytclainfdeghgnaa
open Go.RowKit Go.Proofs.Ytclainfdeghgnaa.Nm Go.Proofs.Ytclainfdeghgnaa.Lm
set_option maxHeartbeats 4000000 in
set_option maxRecDepth 100000 in
theorem roundedI_gt (a b : Int) (A A' : Option Addr) (c c' : Nat) (m : ByteArray) (w : World) (hx : IvAt w a A c) (hy : IvAt w b A' c') (hn : nl a.natAbs ≤ 200) (hn' : nl b.natAbs ≤ 200) (hb0 : 0 < b) (T : Int) (HTT : Hid (T = (((a.tmod b).natAbs + (a.tmod b).natAbs : Nat) : Int))) (hm : m.data.toList = [101, 118, 101, 110]) (R : Int) (HS : Hid (RsOf true R (a.tdiv b) (a.tmod b))) (HC : Hid (1 = cz T b)) (HU : Hid (true = true → a.tmod b ≠ 0)) :
    Calls Try.prog 81 #[.agg (iv a A c), .agg (iv b A' c'), .string m] w fun e w' => ∃ A2 c2, e = .returned (.agg (iv R A2 c2)) ∧ IvAt w' R A2 c2 ∧ Below w.heap.size w w' := by
  have l1 := lit_eq hm (l := [102, 108, 111, 111, 114]) rfl
  have l2 := lit_eq hm (l := [104, 97, 108, 102]) rfl
  have l3 := lit_eq hm (l := [101, 118, 101, 110]) rfl
  clear hm
  obtain ⟨q, hq⟩ : ∃ q, q = a.tdiv b := ⟨_, rfl⟩
  obtain ⟨r, hr⟩ : ∃ r, r = a.tmod b := ⟨_, rfl⟩
  have HQ := Lib.hid hq
  have HR := Lib.hid hr
  have HX := Lib.hid hx
  have HY := Lib.hid hy
  have HN := Lib.hid (And.intro hn hn')
  have HB := Lib.hid hb0
  have ngb : ng b = false := by rw [ng_def]; simp; omega
  have HNR : Hid (nl r.natAbs ≤ 200 ∧ nl q.natAbs ≤ 200) := Lib.hid (by rw [hr, hq]; exact ⟨nl_tmod hn, nl_tdiv hn⟩)
  have HN2 : Hid (nl T.natAbs ≤ 400) := Lib.hid (by rw [HTT.out, Int.natAbs_natCast]; exact nl_two hn' (by omega))
  rw [← hr] at HTT
  clear hx hy hn hn' hb0 hq hr
  go_enter Try.func81, Try.ntmps81
  go_upto_region 1 with (fail)
  refine wp_world (fun W => W.heap[w.heap.size]? = some (.cells (iv a A c) 84 (0, 0)) ∧ W.heap[w.heap.size + 1]? = some (.cells (iv b A' c') 84 (0, 0)) ∧ W.heap[w.heap.size + 1 + 1]? = some (.cells (iv 0 none 0) 84 (0, 0)) ∧ Below w.heap.size w W) ⟨ha_old (ha_old (ha_new rfl)), ha_old (ha_new (by simp)), by rw [iv_zero]; exact ha_new (by simp), (((Below.refl _ _).alloc (Nat.le_refl _) _).alloc (by simp) _).alloc (by simp; omega) _⟩ ?_
  rintro W ⟨h0, h1, h2, hb⟩
  have b0 := iv0 h1
  rw [ngb] at b0
  have hX := HX.out.below hb
  have hY := HY.out.below hb
  clear HX HY
  go_upto_region 3 with (fail)
  clear b0
  apply wp_region_lit
  ((with_reducible apply wl_rowG); exact rfl; exact rfl; exact rowIv (by with_reducible assumption))
  ((with_reducible apply wl_rowG); exact rfl; exact rfl; exact rowIv (by with_reducible assumption))
  refine wl_ck rfl (fun K hK => ?_); go_simp; refine ⟨_, _, ⟨rfl, rfl⟩, hK _ _ ⟨_, PartedI_any _ _ _ _ _ _ _ hX hY (by have := HN.out; omega) (by have := HN.out; omega) (by have := HB.out; omega), ?_⟩⟩; clear hK K; rintro e w1 ⟨A2, c2, A3, c3, rfl, hQ, hR, hb1⟩; refine ⟨_, rfl, ?_⟩; simp only [put_lit, List.set_cons_zero, List.set_cons_succ]
  rw [← HQ.out, ← HR.out]
  rw [← HQ.out] at hQ
  rw [← HR.out] at hR
  replace h0 := below_look hb1 h0; replace h1 := below_look hb1 h1; replace h2 := below_look hb1 h2; replace hX := hX.below hb1; replace hY := hY.below hb1; replace hb := hb.trans (hb1.mono hb.size); clear hb1
  refine wl_k rfl (fun K hK => ?_); go_simp; refine hK _ ?_; clear hK K
  refine wl_k rfl (fun K hK => ?_); go_simp; refine hK _ ?_; clear hK K
  refine wl_k rfl (fun K hK => ?_); go_simp; refine hK _ ?_; clear hK K
  (have lth0p7 := heap_lt h0; have lth1p7 := heap_lt h1; have lth2p7 := heap_lt h2; have lsp7 := hb.size; (with_reducible apply wl_new84); intro w2 p7 hbn hlp7 hp7; replace h0 := below_look hbn h0; replace h1 := below_look hbn h1; replace h2 := below_look hbn h2; replace hX := hX.below hbn; replace hY := hY.below hbn; replace hQ := hQ.below hbn; replace hR := hR.below hbn; replace hb := hb.trans (hbn.mono hb.size); clear hbn)
  (have lth0p8 := heap_lt h0; have lth1p8 := heap_lt h1; have lth2p8 := heap_lt h2; have lthp7p8 := heap_lt hp7; have lsp8 := hb.size; (with_reducible apply wl_new84); intro w3 p8 hbn hlp8 hp8; replace h0 := below_look hbn h0; replace h1 := below_look hbn h1; replace h2 := below_look hbn h2; replace hp7 := below_look hbn hp7; replace hX := hX.below hbn; replace hY := hY.below hbn; replace hQ := hQ.below hbn; replace hR := hR.below hbn; replace hb := hb.trans (hbn.mono hb.size); clear hbn)
  ((with_reducible apply wl_putI); exact rfl; exact rfl; exact hp7; intro w4 hbx hk hq hi; replace h0 := hk _ _ (by omega) h0; replace h1 := hk _ _ (by omega) h1; replace h2 := hk _ _ (by omega) h2; replace hp8 := hk _ _ (by omega) hp8; replace hX := hi _ _ _ hX; replace hY := hi _ _ _ hY; replace hQ := hi _ _ _ hQ; replace hR := hi _ _ _ hR; replace hb := hbx _ _ (by omega) hb; clear hp7; have hp7 := hq; clear hbx hk hq hi)
  ((with_reducible apply wl_putI); exact rfl; exact rfl; exact hp8; intro w5 hbx hk hq hi; replace h0 := hk _ _ (by omega) h0; replace h1 := hk _ _ (by omega) h1; replace h2 := hk _ _ (by omega) h2; replace hp7 := hk _ _ (by omega) hp7; replace hX := hi _ _ _ hX; replace hY := hi _ _ _ hY; replace hQ := hi _ _ _ hQ; replace hR := hi _ _ _ hR; replace hb := hbx _ _ (by omega) hb; clear hp8; have hp8 := hq; clear hbx hk hq hi)
  go_upto_region 4 with (fail)
  have r1 := iv1 hp8
  apply wp_region_lit
  refine wl_k rfl (fun K hK => ?_); go_simp; refine hK _ ?_; clear hK K
  ((with_reducible apply wl_oneG); exact rfl; exact rfl; exact one82 (by with_reducible assumption))
  refine wl_k rfl (fun K hK => ?_); go_simp; refine hK _ ?_; clear hK K
  ((with_reducible apply wl_oneG); exact rfl; exact rfl; exact one82 (by with_reducible assumption))
  clear r1
  refine wl_ck rfl (fun K hK => ?_); go_simp; refine ⟨_, _, ⟨rfl, rfl⟩, hK _ _ ⟨_, plus_any _ _ _ _ _ _ r.natAbs r.natAbs _ hR.2 hR.2 (nl_spec _) (nl_spec _) (by have := HNR.out.1; omega) (by have := HNR.out.1; omega), ?_⟩⟩; clear hK K; rintro e w6 ⟨A4, c4, rfl, hc4, hl4, hb1⟩; refine ⟨_, rfl, ?_⟩; simp only [put_lit, List.set_cons_zero, List.set_cons_succ]
  replace h0 := below_look hb1 h0; replace h1 := below_look hb1 h1; replace h2 := below_look hb1 h2; replace hp7 := below_look hb1 hp7; replace hp8 := below_look hb1 hp8; replace hX := hX.below hb1; replace hY := hY.below hb1; replace hQ := hQ.below hb1; replace hR := hR.below hb1; replace hb := hb.trans (hb1.mono hb.size); clear hb1
  have hT : IvAt w6 T A4 c4 := IvAt.of _ (by rw [HTT.out]; exact Int.natAbs_natCast _) hc4 hl4
  clear hc4 hl4
  refine wl_ck rfl (fun K hK => ?_); go_simp; refine ⟨_, _, ⟨rfl, rfl⟩, hK _ _ ⟨_, signedI_any false A4 (r.natAbs + r.natAbs) c4 _, ?_⟩⟩; clear hK K; rintro e w7 ⟨rfl, hb1⟩; refine ⟨_, rfl, ?_⟩; simp only [put_lit, List.set_cons_zero, List.set_cons_succ]
  rw [show sg false (r.natAbs + r.natAbs) = T from HTT.out.symm]
  replace h0 := below_look hb1 h0; replace h1 := below_look hb1 h1; replace h2 := below_look hb1 h2; replace hp7 := below_look hb1 hp7; replace hp8 := below_look hb1 hp8; replace hX := hX.below hb1; replace hY := hY.below hb1; replace hQ := hQ.below hb1; replace hR := hR.below hb1; replace hT := hT.below hb1; replace hb := hb.trans (hb1.mono hb.size); clear hb1
  (have lth0p9 := heap_lt h0; have lth1p9 := heap_lt h1; have lth2p9 := heap_lt h2; have lthp7p9 := heap_lt hp7; have lthp8p9 := heap_lt hp8; have lsp9 := hb.size; (with_reducible apply wl_new84); intro w8 p9 hbn hlp9 hp9; replace h0 := below_look hbn h0; replace h1 := below_look hbn h1; replace h2 := below_look hbn h2; replace hp7 := below_look hbn hp7; replace hp8 := below_look hbn hp8; replace hX := hX.below hbn; replace hY := hY.below hbn; replace hQ := hQ.below hbn; replace hR := hR.below hbn; replace hT := hT.below hbn; replace hb := hb.trans (hbn.mono hb.size); clear hbn)
  ((with_reducible apply wl_putI); exact rfl; exact rfl; exact hp9; intro w9 hbx hk hq hi; replace h0 := hk _ _ (by omega) h0; replace h1 := hk _ _ (by omega) h1; replace h2 := hk _ _ (by omega) h2; replace hp7 := hk _ _ (by omega) hp7; replace hp8 := hk _ _ (by omega) hp8; replace hX := hi _ _ _ hX; replace hY := hi _ _ _ hY; replace hQ := hi _ _ _ hQ; replace hR := hi _ _ _ hR; replace hT := hi _ _ _ hT; replace hb := hbx _ _ (by omega) hb; clear hp9; have hp9 := hq; clear hbx hk hq hi)
  go_upto_region 6 with (fail)
  rw [← HQ.out, ← HR.out] at HS
  rw [← HR.out] at HU
  go_upto_region 12 with (fail)
  apply wp_region_lit
  ((with_reducible apply wl_rowG); exact rfl; exact rfl; exact rowIv (by with_reducible assumption))
  ((with_reducible apply wl_rowG); exact rfl; exact rfl; exact rowIv (by with_reducible assumption))
  refine wl_ck rfl (fun K hK => ?_); go_simp; refine ⟨_, _, ⟨rfl, rfl⟩, hK _ _ ⟨_, CmpI_any _ _ _ _ _ _ _ hT hY HN2.out, ?_⟩⟩; clear hK K; rintro e w10 ⟨rfl, hb1⟩; refine ⟨_, rfl, ?_⟩; simp only [put_lit, List.set_cons_zero, List.set_cons_succ]
  replace h0 := below_look hb1 h0; replace h1 := below_look hb1 h1; replace h2 := below_look hb1 h2; replace hp7 := below_look hb1 hp7; replace hp8 := below_look hb1 hp8; replace hp9 := below_look hb1 hp9; replace hX := hX.below hb1; replace hY := hY.below hb1; replace hQ := hQ.below hb1; replace hR := hR.below hb1; replace hT := hT.below hb1; replace hb := hb.trans (hb1.mono hb.size); clear hb1
  rw [← HC.out]
  have r0 := iv0 hp8
  have r1 := iv1 hp8
  by_cases hs : r < 0
  · have hr0 := Lib.hid hs
    have hg : ng r = true := by rw [ng_def]; simpa using hs
    rw [hg] at r0
    have hz := nl_pos' (n := r.natAbs) (by omega)
    clear hg hs
    go_upto_region 16 with (fail)
    clear r0 r1
    replace hQ := hQ.below (Below.refl _ _).drew
    replace hb := hb.drew
    have HRR := Lib.hid ((HS.out.2 rfl).1 hr0.out)
    have n1 : nl (1 : Int).natAbs ≤ 1 := (by show nl 1 ≤ 1; rw [nl_one]; omega)
    refine wp_region_held_drew (S := Kept [w.heap.size + 1 + 1] w10) mixed (Kept.drew [w.heap.size + 1 + 1] w10) (fun hS => ?_)
    refine ha_val (i := 0) rfl (by kernel_rfl) (by kernel_rfl) (by kernel_rfl) (fun _ _ _ h => h) hS rfl (fun w' hw' => ex_row rfl (rowIv (hw'.look hp7 (by simp <;> omega)))) ?_; try simp only [put_lit, List.set_cons_zero, List.set_cons_succ]
    refine ha_call (i := 1) (by kernel_rfl) rfl rfl (fun K hK => ?_); go_simp; refine ⟨_, _, ⟨rfl, rfl⟩, hK _ _ ⟨_, Of_any 1 (by decide) (by decide) _, ?_⟩⟩; clear hK K; rintro e w20 ⟨A5, c5, rfl, hO, hb1⟩; refine ⟨_, rfl, hS.below hb1, ?_⟩; replace hS := hS.below hb1; replace h2 := below_look hb1 h2; replace hQ := hQ.below hb1; replace hb := hb.trans (hb1.mono hb.size); clear hb1; try simp only [put_lit, List.set_cons_zero, List.set_cons_succ]
    refine ha_call (i := 2) (by kernel_rfl) rfl rfl (fun K hK => ?_); go_simp; refine ⟨_, _, ⟨rfl, rfl⟩, hK _ _ ⟨_, MinusI_any q 1 _ _ _ _ _ hQ hO (by have := HNR.out.2; omega) (by omega), ?_⟩⟩; clear hK K; rintro e w21 ⟨A6, c6, rfl, hI, hb1⟩; refine ⟨_, rfl, hS.below hb1, ?_⟩; replace hS := hS.below hb1; replace h2 := below_look hb1 h2; replace hb := hb.trans (hb1.mono hb.size); clear hb1; try simp only [put_lit, List.set_cons_zero, List.set_cons_succ]
    refine ha_store (i := 3) (by kernel_rfl) rfl rfl 84 _ _ rfl _ (iv (q - 1) A6 c6) rfl rfl 84 _ h2 info84 rfl (iv_one _ _ _) (hS.setRow (by simp) _) (fun hS => ?_); try simp only [put_lit, List.set_cons_zero, List.set_cons_succ]
    refine wpAnyH_done (by kernel_rfl) ?_ _
    go_wp2_with fail
    rw [HRR.out]
    exact bodyPost_ret (res_iv rfl _ _ (w.heap.size + 1 + 1) rfl (hr_new h2)) rfl ⟨A6, c6, rfl, hI.put h2 _, below_setRow hb (by omega) _⟩
  · have hr0 : Hid (0 < r) := Lib.hid (by have := HU.out rfl; omega)
    have hg : ng r = false := by rw [ng_def]; simpa using hs
    rw [hg] at r0
    have hz := nl_pos' (n := r.natAbs) (by have := hr0.out; omega)
    clear hg hs
    go_upto_region 17 with (fail)
    clear r0 r1
    replace hQ := hQ.below (Below.refl _ _).drew
    replace hb := hb.drew
    have HRR := Lib.hid ((HS.out.2 rfl).2 hr0.out)
    have n1 : nl (1 : Int).natAbs ≤ 1 := (by show nl 1 ≤ 1; rw [nl_one]; omega)
    refine wp_region_held_drew (S := Kept [w.heap.size + 1 + 1] w10) mixed (Kept.drew [w.heap.size + 1 + 1] w10) (fun hS => ?_)
    refine ha_val (i := 0) rfl (by kernel_rfl) (by kernel_rfl) (by kernel_rfl) (fun _ _ _ h => h) hS rfl (fun w' hw' => ex_row rfl (rowIv (hw'.look hp7 (by simp <;> omega)))) ?_; try simp only [put_lit, List.set_cons_zero, List.set_cons_succ]
    refine ha_call (i := 1) (by kernel_rfl) rfl rfl (fun K hK => ?_); go_simp; refine ⟨_, _, ⟨rfl, rfl⟩, hK _ _ ⟨_, Of_any 1 (by decide) (by decide) _, ?_⟩⟩; clear hK K; rintro e w20 ⟨A5, c5, rfl, hO, hb1⟩; refine ⟨_, rfl, hS.below hb1, ?_⟩; replace hS := hS.below hb1; replace h2 := below_look hb1 h2; replace hQ := hQ.below hb1; replace hb := hb.trans (hb1.mono hb.size); clear hb1; try simp only [put_lit, List.set_cons_zero, List.set_cons_succ]
    refine ha_call (i := 2) (by kernel_rfl) rfl rfl (fun K hK => ?_); go_simp; refine ⟨_, _, ⟨rfl, rfl⟩, hK _ _ ⟨_, Sum2_any q 1 _ _ _ _ _ hQ hO (by have := HNR.out.2; omega) (by omega), ?_⟩⟩; clear hK K; rintro e w21 ⟨A6, c6, rfl, hI, hb1⟩; refine ⟨_, rfl, hS.below hb1, ?_⟩; replace hS := hS.below hb1; replace h2 := below_look hb1 h2; replace hb := hb.trans (hb1.mono hb.size); clear hb1; try simp only [put_lit, List.set_cons_zero, List.set_cons_succ]
    refine ha_store (i := 3) (by kernel_rfl) rfl rfl 84 _ _ rfl _ (iv (q + 1) A6 c6) rfl rfl 84 _ h2 info84 rfl (iv_one _ _ _) (hS.setRow (by simp) _) (fun hS => ?_); try simp only [put_lit, List.set_cons_zero, List.set_cons_succ]
    refine wpAnyH_done (by kernel_rfl) ?_ _
    go_wp2_with fail
    rw [HRR.out]
    exact bodyPost_ret (res_iv rfl _ _ (w.heap.size + 1 + 1) rfl (hr_new h2)) rfl ⟨A6, c6, rfl, hI.put h2 _, below_setRow hb (by omega) _⟩
set_option maxHeartbeats 4000000 in
set_option maxRecDepth 100000 in
theorem roundedI_lt (a b : Int) (A A' : Option Addr) (c c' : Nat) (m : ByteArray) (w : World) (hx : IvAt w a A c) (hy : IvAt w b A' c') (hn : nl a.natAbs ≤ 200) (hn' : nl b.natAbs ≤ 200) (hb0 : 0 < b) (T : Int) (HTT : Hid (T = (((a.tmod b).natAbs + (a.tmod b).natAbs : Nat) : Int))) (hm : m.data.toList = [101, 118, 101, 110]) (R : Int) (HS : Hid (RsOf false R (a.tdiv b) (a.tmod b))) (HC : Hid (-1 = cz T b)) :
    Calls Try.prog 81 #[.agg (iv a A c), .agg (iv b A' c'), .string m] w fun e w' => ∃ A2 c2, e = .returned (.agg (iv R A2 c2)) ∧ IvAt w' R A2 c2 ∧ Below w.heap.size w w' := by
  have l1 := lit_eq hm (l := [102, 108, 111, 111, 114]) rfl
  have l2 := lit_eq hm (l := [104, 97, 108, 102]) rfl
  have l3 := lit_eq hm (l := [101, 118, 101, 110]) rfl
  clear hm
  obtain ⟨q, hq⟩ : ∃ q, q = a.tdiv b := ⟨_, rfl⟩
  obtain ⟨r, hr⟩ : ∃ r, r = a.tmod b := ⟨_, rfl⟩
  have HQ := Lib.hid hq
  have HR := Lib.hid hr
  have HX := Lib.hid hx
  have HY := Lib.hid hy
  have HN := Lib.hid (And.intro hn hn')
  have HB := Lib.hid hb0
  have ngb : ng b = false := by rw [ng_def]; simp; omega
  have HNR : Hid (nl r.natAbs ≤ 200 ∧ nl q.natAbs ≤ 200) := Lib.hid (by rw [hr, hq]; exact ⟨nl_tmod hn, nl_tdiv hn⟩)
  have HN2 : Hid (nl T.natAbs ≤ 400) := Lib.hid (by rw [HTT.out, Int.natAbs_natCast]; exact nl_two hn' (by omega))
  rw [← hr] at HTT
  clear hx hy hn hn' hb0 hq hr
  go_enter Try.func81, Try.ntmps81
  go_upto_region 1 with (fail)
  refine wp_world (fun W => W.heap[w.heap.size]? = some (.cells (iv a A c) 84 (0, 0)) ∧ W.heap[w.heap.size + 1]? = some (.cells (iv b A' c') 84 (0, 0)) ∧ W.heap[w.heap.size + 1 + 1]? = some (.cells (iv 0 none 0) 84 (0, 0)) ∧ Below w.heap.size w W) ⟨ha_old (ha_old (ha_new rfl)), ha_old (ha_new (by simp)), by rw [iv_zero]; exact ha_new (by simp), (((Below.refl _ _).alloc (Nat.le_refl _) _).alloc (by simp) _).alloc (by simp; omega) _⟩ ?_
  rintro W ⟨h0, h1, h2, hb⟩
  have b0 := iv0 h1
  rw [ngb] at b0
  have hX := HX.out.below hb
  have hY := HY.out.below hb
  clear HX HY
  go_upto_region 3 with (fail)
  clear b0
  apply wp_region_lit
  ((with_reducible apply wl_rowG); exact rfl; exact rfl; exact rowIv (by with_reducible assumption))
  ((with_reducible apply wl_rowG); exact rfl; exact rfl; exact rowIv (by with_reducible assumption))
  refine wl_ck rfl (fun K hK => ?_); go_simp; refine ⟨_, _, ⟨rfl, rfl⟩, hK _ _ ⟨_, PartedI_any _ _ _ _ _ _ _ hX hY (by have := HN.out; omega) (by have := HN.out; omega) (by have := HB.out; omega), ?_⟩⟩; clear hK K; rintro e w1 ⟨A2, c2, A3, c3, rfl, hQ, hR, hb1⟩; refine ⟨_, rfl, ?_⟩; simp only [put_lit, List.set_cons_zero, List.set_cons_succ]
  rw [← HQ.out, ← HR.out]
  rw [← HQ.out] at hQ
  rw [← HR.out] at hR
  replace h0 := below_look hb1 h0; replace h1 := below_look hb1 h1; replace h2 := below_look hb1 h2; replace hX := hX.below hb1; replace hY := hY.below hb1; replace hb := hb.trans (hb1.mono hb.size); clear hb1
  refine wl_k rfl (fun K hK => ?_); go_simp; refine hK _ ?_; clear hK K
  refine wl_k rfl (fun K hK => ?_); go_simp; refine hK _ ?_; clear hK K
  refine wl_k rfl (fun K hK => ?_); go_simp; refine hK _ ?_; clear hK K
  (have lth0p7 := heap_lt h0; have lth1p7 := heap_lt h1; have lth2p7 := heap_lt h2; have lsp7 := hb.size; (with_reducible apply wl_new84); intro w2 p7 hbn hlp7 hp7; replace h0 := below_look hbn h0; replace h1 := below_look hbn h1; replace h2 := below_look hbn h2; replace hX := hX.below hbn; replace hY := hY.below hbn; replace hQ := hQ.below hbn; replace hR := hR.below hbn; replace hb := hb.trans (hbn.mono hb.size); clear hbn)
  (have lth0p8 := heap_lt h0; have lth1p8 := heap_lt h1; have lth2p8 := heap_lt h2; have lthp7p8 := heap_lt hp7; have lsp8 := hb.size; (with_reducible apply wl_new84); intro w3 p8 hbn hlp8 hp8; replace h0 := below_look hbn h0; replace h1 := below_look hbn h1; replace h2 := below_look hbn h2; replace hp7 := below_look hbn hp7; replace hX := hX.below hbn; replace hY := hY.below hbn; replace hQ := hQ.below hbn; replace hR := hR.below hbn; replace hb := hb.trans (hbn.mono hb.size); clear hbn)
  ((with_reducible apply wl_putI); exact rfl; exact rfl; exact hp7; intro w4 hbx hk hq hi; replace h0 := hk _ _ (by omega) h0; replace h1 := hk _ _ (by omega) h1; replace h2 := hk _ _ (by omega) h2; replace hp8 := hk _ _ (by omega) hp8; replace hX := hi _ _ _ hX; replace hY := hi _ _ _ hY; replace hQ := hi _ _ _ hQ; replace hR := hi _ _ _ hR; replace hb := hbx _ _ (by omega) hb; clear hp7; have hp7 := hq; clear hbx hk hq hi)
  ((with_reducible apply wl_putI); exact rfl; exact rfl; exact hp8; intro w5 hbx hk hq hi; replace h0 := hk _ _ (by omega) h0; replace h1 := hk _ _ (by omega) h1; replace h2 := hk _ _ (by omega) h2; replace hp7 := hk _ _ (by omega) hp7; replace hX := hi _ _ _ hX; replace hY := hi _ _ _ hY; replace hQ := hi _ _ _ hQ; replace hR := hi _ _ _ hR; replace hb := hbx _ _ (by omega) hb; clear hp8; have hp8 := hq; clear hbx hk hq hi)
  go_upto_region 4 with (fail)
  have r1 := iv1 hp8
  apply wp_region_lit
  refine wl_k rfl (fun K hK => ?_); go_simp; refine hK _ ?_; clear hK K
  ((with_reducible apply wl_oneG); exact rfl; exact rfl; exact one82 (by with_reducible assumption))
  refine wl_k rfl (fun K hK => ?_); go_simp; refine hK _ ?_; clear hK K
  ((with_reducible apply wl_oneG); exact rfl; exact rfl; exact one82 (by with_reducible assumption))
  clear r1
  refine wl_ck rfl (fun K hK => ?_); go_simp; refine ⟨_, _, ⟨rfl, rfl⟩, hK _ _ ⟨_, plus_any _ _ _ _ _ _ r.natAbs r.natAbs _ hR.2 hR.2 (nl_spec _) (nl_spec _) (by have := HNR.out.1; omega) (by have := HNR.out.1; omega), ?_⟩⟩; clear hK K; rintro e w6 ⟨A4, c4, rfl, hc4, hl4, hb1⟩; refine ⟨_, rfl, ?_⟩; simp only [put_lit, List.set_cons_zero, List.set_cons_succ]
  replace h0 := below_look hb1 h0; replace h1 := below_look hb1 h1; replace h2 := below_look hb1 h2; replace hp7 := below_look hb1 hp7; replace hp8 := below_look hb1 hp8; replace hX := hX.below hb1; replace hY := hY.below hb1; replace hQ := hQ.below hb1; replace hR := hR.below hb1; replace hb := hb.trans (hb1.mono hb.size); clear hb1
  have hT : IvAt w6 T A4 c4 := IvAt.of _ (by rw [HTT.out]; exact Int.natAbs_natCast _) hc4 hl4
  clear hc4 hl4
  refine wl_ck rfl (fun K hK => ?_); go_simp; refine ⟨_, _, ⟨rfl, rfl⟩, hK _ _ ⟨_, signedI_any false A4 (r.natAbs + r.natAbs) c4 _, ?_⟩⟩; clear hK K; rintro e w7 ⟨rfl, hb1⟩; refine ⟨_, rfl, ?_⟩; simp only [put_lit, List.set_cons_zero, List.set_cons_succ]
  rw [show sg false (r.natAbs + r.natAbs) = T from HTT.out.symm]
  replace h0 := below_look hb1 h0; replace h1 := below_look hb1 h1; replace h2 := below_look hb1 h2; replace hp7 := below_look hb1 hp7; replace hp8 := below_look hb1 hp8; replace hX := hX.below hb1; replace hY := hY.below hb1; replace hQ := hQ.below hb1; replace hR := hR.below hb1; replace hT := hT.below hb1; replace hb := hb.trans (hb1.mono hb.size); clear hb1
  (have lth0p9 := heap_lt h0; have lth1p9 := heap_lt h1; have lth2p9 := heap_lt h2; have lthp7p9 := heap_lt hp7; have lthp8p9 := heap_lt hp8; have lsp9 := hb.size; (with_reducible apply wl_new84); intro w8 p9 hbn hlp9 hp9; replace h0 := below_look hbn h0; replace h1 := below_look hbn h1; replace h2 := below_look hbn h2; replace hp7 := below_look hbn hp7; replace hp8 := below_look hbn hp8; replace hX := hX.below hbn; replace hY := hY.below hbn; replace hQ := hQ.below hbn; replace hR := hR.below hbn; replace hT := hT.below hbn; replace hb := hb.trans (hbn.mono hb.size); clear hbn)
  ((with_reducible apply wl_putI); exact rfl; exact rfl; exact hp9; intro w9 hbx hk hq hi; replace h0 := hk _ _ (by omega) h0; replace h1 := hk _ _ (by omega) h1; replace h2 := hk _ _ (by omega) h2; replace hp7 := hk _ _ (by omega) hp7; replace hp8 := hk _ _ (by omega) hp8; replace hX := hi _ _ _ hX; replace hY := hi _ _ _ hY; replace hQ := hi _ _ _ hQ; replace hR := hi _ _ _ hR; replace hT := hi _ _ _ hT; replace hb := hbx _ _ (by omega) hb; clear hp9; have hp9 := hq; clear hbx hk hq hi)
  go_upto_region 6 with (fail)
  rw [← HQ.out, ← HR.out] at HS
  go_upto_region 12 with (fail)
  apply wp_region_lit
  ((with_reducible apply wl_rowG); exact rfl; exact rfl; exact rowIv (by with_reducible assumption))
  ((with_reducible apply wl_rowG); exact rfl; exact rfl; exact rowIv (by with_reducible assumption))
  refine wl_ck rfl (fun K hK => ?_); go_simp; refine ⟨_, _, ⟨rfl, rfl⟩, hK _ _ ⟨_, CmpI_any _ _ _ _ _ _ _ hT hY HN2.out, ?_⟩⟩; clear hK K; rintro e w10 ⟨rfl, hb1⟩; refine ⟨_, rfl, ?_⟩; simp only [put_lit, List.set_cons_zero, List.set_cons_succ]
  replace h0 := below_look hb1 h0; replace h1 := below_look hb1 h1; replace h2 := below_look hb1 h2; replace hp7 := below_look hb1 hp7; replace hp8 := below_look hb1 hp8; replace hp9 := below_look hb1 hp9; replace hX := hX.below hb1; replace hY := hY.below hb1; replace hQ := hQ.below hb1; replace hR := hR.below hb1; replace hT := hT.below hb1; replace hb := hb.trans (hb1.mono hb.size); clear hb1
  rw [← HC.out]
  refine wl_k rfl (fun K hK => ?_); go_simp; refine hK _ ?_; clear hK K
  refine wl_k rfl (fun K hK => ?_); go_simp; refine hK _ ?_; clear hK K
  ((with_reducible apply wl_rowG); exact rfl; exact rfl; exact rowIv (by with_reducible assumption))
  ((with_reducible apply wl_rowG); exact rfl; exact rfl; exact rowIv (by with_reducible assumption))
  refine wl_ck rfl (fun K hK => ?_); go_simp; refine ⟨_, _, ⟨rfl, rfl⟩, hK _ _ ⟨_, CmpI_any _ _ _ _ _ _ _ hT hY HN2.out, ?_⟩⟩; clear hK K; rintro e w11 ⟨rfl, hb1⟩; refine ⟨_, rfl, ?_⟩; simp only [put_lit, List.set_cons_zero, List.set_cons_succ]
  replace h0 := below_look hb1 h0; replace h1 := below_look hb1 h1; replace h2 := below_look hb1 h2; replace hp7 := below_look hb1 hp7; replace hp8 := below_look hb1 hp8; replace hp9 := below_look hb1 hp9; replace hX := hX.below hb1; replace hY := hY.below hb1; replace hQ := hQ.below hb1; replace hR := hR.below hb1; replace hT := hT.below hb1; replace hb := hb.trans (hb1.mono hb.size); clear hb1
  rw [← HC.out]
  have r0 := iv0 hp8
  have r1 := iv1 hp8
  go_upto_region 14 with (fail)
  apply wp_region_lit
  ((with_reducible apply wl_rowG); exact rfl; exact rfl; exact rowIv (by with_reducible assumption))
  ((with_reducible apply wl_putI); exact rfl; exact rfl; exact h2; intro w21 hbx hk hq hi; replace hQ := hi _ _ _ hQ; replace hb := hbx _ _ (by omega) hb; clear h2; have h2 := hq; clear hbx hk hq hi)
  go_wp2_with fail
  rw [(HS.out.1 rfl)]
  exact bodyPost_ret (res_iv rfl _ _ (w.heap.size + 1 + 1) rfl h2) rfl ⟨A2, c2, rfl, hQ, hb⟩
set_option maxHeartbeats 4000000 in
set_option maxRecDepth 100000 in
theorem roundedI_eq (a b : Int) (A A' : Option Addr) (c c' : Nat) (m : ByteArray) (w : World) (hx : IvAt w a A c) (hy : IvAt w b A' c') (hn : nl a.natAbs ≤ 200) (hn' : nl b.natAbs ≤ 200) (hb0 : 0 < b) (T : Int) (HTT : Hid (T = (((a.tmod b).natAbs + (a.tmod b).natAbs : Nat) : Int))) (hm : m.data.toList = [101, 118, 101, 110]) (U : Bool) (BT : Nat) (R : Int) (HS : Hid (RsOf U R (a.tdiv b) (a.tmod b))) (HC : Hid (0 = cz T b)) (HBT : Hid (BT = bt (a.tdiv b).natAbs 0)) (hU : U = decide (BT = 1)) (HU : Hid (U = true → a.tmod b ≠ 0)) :
    Calls Try.prog 81 #[.agg (iv a A c), .agg (iv b A' c'), .string m] w fun e w' => ∃ A2 c2, e = .returned (.agg (iv R A2 c2)) ∧ IvAt w' R A2 c2 ∧ Below w.heap.size w w' := by
  have l1 := lit_eq hm (l := [102, 108, 111, 111, 114]) rfl
  have l2 := lit_eq hm (l := [104, 97, 108, 102]) rfl
  have l3 := lit_eq hm (l := [101, 118, 101, 110]) rfl
  clear hm
  obtain ⟨q, hq⟩ : ∃ q, q = a.tdiv b := ⟨_, rfl⟩
  obtain ⟨r, hr⟩ : ∃ r, r = a.tmod b := ⟨_, rfl⟩
  have HQ := Lib.hid hq
  have HR := Lib.hid hr
  have HX := Lib.hid hx
  have HY := Lib.hid hy
  have HN := Lib.hid (And.intro hn hn')
  have HB := Lib.hid hb0
  have ngb : ng b = false := by rw [ng_def]; simp; omega
  have HNR : Hid (nl r.natAbs ≤ 200 ∧ nl q.natAbs ≤ 200) := Lib.hid (by rw [hr, hq]; exact ⟨nl_tmod hn, nl_tdiv hn⟩)
  have HN2 : Hid (nl T.natAbs ≤ 400) := Lib.hid (by rw [HTT.out, Int.natAbs_natCast]; exact nl_two hn' (by omega))
  rw [← hr] at HTT
  clear hx hy hn hn' hb0 hq hr
  go_enter Try.func81, Try.ntmps81
  go_upto_region 1 with (fail)
  refine wp_world (fun W => W.heap[w.heap.size]? = some (.cells (iv a A c) 84 (0, 0)) ∧ W.heap[w.heap.size + 1]? = some (.cells (iv b A' c') 84 (0, 0)) ∧ W.heap[w.heap.size + 1 + 1]? = some (.cells (iv 0 none 0) 84 (0, 0)) ∧ Below w.heap.size w W) ⟨ha_old (ha_old (ha_new rfl)), ha_old (ha_new (by simp)), by rw [iv_zero]; exact ha_new (by simp), (((Below.refl _ _).alloc (Nat.le_refl _) _).alloc (by simp) _).alloc (by simp; omega) _⟩ ?_
  rintro W ⟨h0, h1, h2, hb⟩
  have b0 := iv0 h1
  rw [ngb] at b0
  have hX := HX.out.below hb
  have hY := HY.out.below hb
  clear HX HY
  go_upto_region 3 with (fail)
  clear b0
  apply wp_region_lit
  ((with_reducible apply wl_rowG); exact rfl; exact rfl; exact rowIv (by with_reducible assumption))
  ((with_reducible apply wl_rowG); exact rfl; exact rfl; exact rowIv (by with_reducible assumption))
  refine wl_ck rfl (fun K hK => ?_); go_simp; refine ⟨_, _, ⟨rfl, rfl⟩, hK _ _ ⟨_, PartedI_any _ _ _ _ _ _ _ hX hY (by have := HN.out; omega) (by have := HN.out; omega) (by have := HB.out; omega), ?_⟩⟩; clear hK K; rintro e w1 ⟨A2, c2, A3, c3, rfl, hQ, hR, hb1⟩; refine ⟨_, rfl, ?_⟩; simp only [put_lit, List.set_cons_zero, List.set_cons_succ]
  rw [← HQ.out, ← HR.out]
  rw [← HQ.out] at hQ
  rw [← HR.out] at hR
  replace h0 := below_look hb1 h0; replace h1 := below_look hb1 h1; replace h2 := below_look hb1 h2; replace hX := hX.below hb1; replace hY := hY.below hb1; replace hb := hb.trans (hb1.mono hb.size); clear hb1
  refine wl_k rfl (fun K hK => ?_); go_simp; refine hK _ ?_; clear hK K
  refine wl_k rfl (fun K hK => ?_); go_simp; refine hK _ ?_; clear hK K
  refine wl_k rfl (fun K hK => ?_); go_simp; refine hK _ ?_; clear hK K
  (have lth0p7 := heap_lt h0; have lth1p7 := heap_lt h1; have lth2p7 := heap_lt h2; have lsp7 := hb.size; (with_reducible apply wl_new84); intro w2 p7 hbn hlp7 hp7; replace h0 := below_look hbn h0; replace h1 := below_look hbn h1; replace h2 := below_look hbn h2; replace hX := hX.below hbn; replace hY := hY.below hbn; replace hQ := hQ.below hbn; replace hR := hR.below hbn; replace hb := hb.trans (hbn.mono hb.size); clear hbn)
  (have lth0p8 := heap_lt h0; have lth1p8 := heap_lt h1; have lth2p8 := heap_lt h2; have lthp7p8 := heap_lt hp7; have lsp8 := hb.size; (with_reducible apply wl_new84); intro w3 p8 hbn hlp8 hp8; replace h0 := below_look hbn h0; replace h1 := below_look hbn h1; replace h2 := below_look hbn h2; replace hp7 := below_look hbn hp7; replace hX := hX.below hbn; replace hY := hY.below hbn; replace hQ := hQ.below hbn; replace hR := hR.below hbn; replace hb := hb.trans (hbn.mono hb.size); clear hbn)
  ((with_reducible apply wl_putI); exact rfl; exact rfl; exact hp7; intro w4 hbx hk hq hi; replace h0 := hk _ _ (by omega) h0; replace h1 := hk _ _ (by omega) h1; replace h2 := hk _ _ (by omega) h2; replace hp8 := hk _ _ (by omega) hp8; replace hX := hi _ _ _ hX; replace hY := hi _ _ _ hY; replace hQ := hi _ _ _ hQ; replace hR := hi _ _ _ hR; replace hb := hbx _ _ (by omega) hb; clear hp7; have hp7 := hq; clear hbx hk hq hi)
  ((with_reducible apply wl_putI); exact rfl; exact rfl; exact hp8; intro w5 hbx hk hq hi; replace h0 := hk _ _ (by omega) h0; replace h1 := hk _ _ (by omega) h1; replace h2 := hk _ _ (by omega) h2; replace hp7 := hk _ _ (by omega) hp7; replace hX := hi _ _ _ hX; replace hY := hi _ _ _ hY; replace hQ := hi _ _ _ hQ; replace hR := hi _ _ _ hR; replace hb := hbx _ _ (by omega) hb; clear hp8; have hp8 := hq; clear hbx hk hq hi)
  go_upto_region 4 with (fail)
  have r1 := iv1 hp8
  apply wp_region_lit
  refine wl_k rfl (fun K hK => ?_); go_simp; refine hK _ ?_; clear hK K
  ((with_reducible apply wl_oneG); exact rfl; exact rfl; exact one82 (by with_reducible assumption))
  refine wl_k rfl (fun K hK => ?_); go_simp; refine hK _ ?_; clear hK K
  ((with_reducible apply wl_oneG); exact rfl; exact rfl; exact one82 (by with_reducible assumption))
  clear r1
  refine wl_ck rfl (fun K hK => ?_); go_simp; refine ⟨_, _, ⟨rfl, rfl⟩, hK _ _ ⟨_, plus_any _ _ _ _ _ _ r.natAbs r.natAbs _ hR.2 hR.2 (nl_spec _) (nl_spec _) (by have := HNR.out.1; omega) (by have := HNR.out.1; omega), ?_⟩⟩; clear hK K; rintro e w6 ⟨A4, c4, rfl, hc4, hl4, hb1⟩; refine ⟨_, rfl, ?_⟩; simp only [put_lit, List.set_cons_zero, List.set_cons_succ]
  replace h0 := below_look hb1 h0; replace h1 := below_look hb1 h1; replace h2 := below_look hb1 h2; replace hp7 := below_look hb1 hp7; replace hp8 := below_look hb1 hp8; replace hX := hX.below hb1; replace hY := hY.below hb1; replace hQ := hQ.below hb1; replace hR := hR.below hb1; replace hb := hb.trans (hb1.mono hb.size); clear hb1
  have hT : IvAt w6 T A4 c4 := IvAt.of _ (by rw [HTT.out]; exact Int.natAbs_natCast _) hc4 hl4
  clear hc4 hl4
  refine wl_ck rfl (fun K hK => ?_); go_simp; refine ⟨_, _, ⟨rfl, rfl⟩, hK _ _ ⟨_, signedI_any false A4 (r.natAbs + r.natAbs) c4 _, ?_⟩⟩; clear hK K; rintro e w7 ⟨rfl, hb1⟩; refine ⟨_, rfl, ?_⟩; simp only [put_lit, List.set_cons_zero, List.set_cons_succ]
  rw [show sg false (r.natAbs + r.natAbs) = T from HTT.out.symm]
  replace h0 := below_look hb1 h0; replace h1 := below_look hb1 h1; replace h2 := below_look hb1 h2; replace hp7 := below_look hb1 hp7; replace hp8 := below_look hb1 hp8; replace hX := hX.below hb1; replace hY := hY.below hb1; replace hQ := hQ.below hb1; replace hR := hR.below hb1; replace hT := hT.below hb1; replace hb := hb.trans (hb1.mono hb.size); clear hb1
  (have lth0p9 := heap_lt h0; have lth1p9 := heap_lt h1; have lth2p9 := heap_lt h2; have lthp7p9 := heap_lt hp7; have lthp8p9 := heap_lt hp8; have lsp9 := hb.size; (with_reducible apply wl_new84); intro w8 p9 hbn hlp9 hp9; replace h0 := below_look hbn h0; replace h1 := below_look hbn h1; replace h2 := below_look hbn h2; replace hp7 := below_look hbn hp7; replace hp8 := below_look hbn hp8; replace hX := hX.below hbn; replace hY := hY.below hbn; replace hQ := hQ.below hbn; replace hR := hR.below hbn; replace hT := hT.below hbn; replace hb := hb.trans (hbn.mono hb.size); clear hbn)
  ((with_reducible apply wl_putI); exact rfl; exact rfl; exact hp9; intro w9 hbx hk hq hi; replace h0 := hk _ _ (by omega) h0; replace h1 := hk _ _ (by omega) h1; replace h2 := hk _ _ (by omega) h2; replace hp7 := hk _ _ (by omega) hp7; replace hp8 := hk _ _ (by omega) hp8; replace hX := hi _ _ _ hX; replace hY := hi _ _ _ hY; replace hQ := hi _ _ _ hQ; replace hR := hi _ _ _ hR; replace hT := hi _ _ _ hT; replace hb := hbx _ _ (by omega) hb; clear hp9; have hp9 := hq; clear hbx hk hq hi)
  go_upto_region 6 with (fail)
  rw [← HQ.out, ← HR.out] at HS
  rw [← HR.out] at HU
  rw [← HQ.out] at HBT
  go_upto_region 12 with (fail)
  apply wp_region_lit
  ((with_reducible apply wl_rowG); exact rfl; exact rfl; exact rowIv (by with_reducible assumption))
  ((with_reducible apply wl_rowG); exact rfl; exact rfl; exact rowIv (by with_reducible assumption))
  refine wl_ck rfl (fun K hK => ?_); go_simp; refine ⟨_, _, ⟨rfl, rfl⟩, hK _ _ ⟨_, CmpI_any _ _ _ _ _ _ _ hT hY HN2.out, ?_⟩⟩; clear hK K; rintro e w10 ⟨rfl, hb1⟩; refine ⟨_, rfl, ?_⟩; simp only [put_lit, List.set_cons_zero, List.set_cons_succ]
  replace h0 := below_look hb1 h0; replace h1 := below_look hb1 h1; replace h2 := below_look hb1 h2; replace hp7 := below_look hb1 hp7; replace hp8 := below_look hb1 hp8; replace hp9 := below_look hb1 hp9; replace hX := hX.below hb1; replace hY := hY.below hb1; replace hQ := hQ.below hb1; replace hR := hR.below hb1; replace hT := hT.below hb1; replace hb := hb.trans (hb1.mono hb.size); clear hb1
  rw [← HC.out]
  refine wl_k rfl (fun K hK => ?_); go_simp; refine hK _ ?_; clear hK K
  refine wl_k rfl (fun K hK => ?_); go_simp; refine hK _ ?_; clear hK K
  ((with_reducible apply wl_rowG); exact rfl; exact rfl; exact rowIv (by with_reducible assumption))
  ((with_reducible apply wl_rowG); exact rfl; exact rfl; exact rowIv (by with_reducible assumption))
  refine wl_ck rfl (fun K hK => ?_); go_simp; refine ⟨_, _, ⟨rfl, rfl⟩, hK _ _ ⟨_, CmpI_any _ _ _ _ _ _ _ hT hY HN2.out, ?_⟩⟩; clear hK K; rintro e w11 ⟨rfl, hb1⟩; refine ⟨_, rfl, ?_⟩; simp only [put_lit, List.set_cons_zero, List.set_cons_succ]
  replace h0 := below_look hb1 h0; replace h1 := below_look hb1 h1; replace h2 := below_look hb1 h2; replace hp7 := below_look hb1 hp7; replace hp8 := below_look hb1 hp8; replace hp9 := below_look hb1 hp9; replace hX := hX.below hb1; replace hY := hY.below hb1; replace hQ := hQ.below hb1; replace hR := hR.below hb1; replace hT := hT.below hb1; replace hb := hb.trans (hb1.mono hb.size); clear hb1
  rw [← HC.out]
  refine wl_k rfl (fun K hK => ?_); go_simp; refine hK _ ?_; clear hK K
  refine wl_k rfl (fun K hK => ?_); go_simp; refine hK _ ?_; clear hK K
  have q1 := iv1 hp7
  refine wl_k rfl (fun K hK => ?_); go_simp; refine hK _ ?_; clear hK K
  ((with_reducible apply wl_oneG); exact rfl; exact rfl; exact one82 (by with_reducible assumption))
  clear q1
  refine wl_ck rfl (fun K hK => ?_); go_simp; refine ⟨_, _, ⟨rfl, rfl⟩, hK _ _ ⟨_, bit_any _ _ _ q.natAbs 0 _ hQ.2 (nl_spec _) (by have := HNR.out.2; omega) (by omega), ?_⟩⟩; clear hK K; rintro e w12 ⟨rfl, rfl⟩; refine ⟨_, rfl, ?_⟩; simp only [put_lit, List.set_cons_zero, List.set_cons_succ]
  rw [← HBT.out]
  have r0 := iv0 hp8
  have r1 := iv1 hp8
  cases U
  · have hc : ¬ (BT : Int) = 1 := by have : ¬ BT = 1 := by simpa using hU
                                     omega
    clear hU
    go_upto_region 14 with (fail)
    apply wp_region_lit
    ((with_reducible apply wl_rowG); exact rfl; exact rfl; exact rowIv (by with_reducible assumption))
    ((with_reducible apply wl_putI); exact rfl; exact rfl; exact h2; intro w21 hbx hk hq hi; replace hQ := hi _ _ _ hQ; replace hb := hbx _ _ (by omega) hb; clear h2; have h2 := hq; clear hbx hk hq hi)
    go_wp2_with fail
    rw [(HS.out.1 rfl)]
    exact bodyPost_ret (res_iv rfl _ _ (w.heap.size + 1 + 1) rfl h2) rfl ⟨A2, c2, rfl, hQ, hb⟩
  · have hc : BT = 1 := by simpa using hU
    clear hU
    subst hc
    by_cases hs : r < 0
    · have hr0 := Lib.hid hs
      have hg : ng r = true := by rw [ng_def]; simpa using hs
      rw [hg] at r0
      have hz := nl_pos' (n := r.natAbs) (by omega)
      clear hg hs
      go_upto_region 16 with (fail)
      clear r0 r1
      replace hQ := hQ.below (Below.refl _ _).drew
      replace hb := hb.drew
      have HRR := Lib.hid ((HS.out.2 rfl).1 hr0.out)
      have n1 : nl (1 : Int).natAbs ≤ 1 := (by show nl 1 ≤ 1; rw [nl_one]; omega)
      refine wp_region_held_drew (S := Kept [w.heap.size + 1 + 1] w11) mixed (Kept.drew [w.heap.size + 1 + 1] w11) (fun hS => ?_)
      refine ha_val (i := 0) rfl (by kernel_rfl) (by kernel_rfl) (by kernel_rfl) (fun _ _ _ h => h) hS rfl (fun w' hw' => ex_row rfl (rowIv (hw'.look hp7 (by simp <;> omega)))) ?_; try simp only [put_lit, List.set_cons_zero, List.set_cons_succ]
      refine ha_call (i := 1) (by kernel_rfl) rfl rfl (fun K hK => ?_); go_simp; refine ⟨_, _, ⟨rfl, rfl⟩, hK _ _ ⟨_, Of_any 1 (by decide) (by decide) _, ?_⟩⟩; clear hK K; rintro e w20 ⟨A5, c5, rfl, hO, hb1⟩; refine ⟨_, rfl, hS.below hb1, ?_⟩; replace hS := hS.below hb1; replace h2 := below_look hb1 h2; replace hQ := hQ.below hb1; replace hb := hb.trans (hb1.mono hb.size); clear hb1; try simp only [put_lit, List.set_cons_zero, List.set_cons_succ]
      refine ha_call (i := 2) (by kernel_rfl) rfl rfl (fun K hK => ?_); go_simp; refine ⟨_, _, ⟨rfl, rfl⟩, hK _ _ ⟨_, MinusI_any q 1 _ _ _ _ _ hQ hO (by have := HNR.out.2; omega) (by omega), ?_⟩⟩; clear hK K; rintro e w21 ⟨A6, c6, rfl, hI, hb1⟩; refine ⟨_, rfl, hS.below hb1, ?_⟩; replace hS := hS.below hb1; replace h2 := below_look hb1 h2; replace hb := hb.trans (hb1.mono hb.size); clear hb1; try simp only [put_lit, List.set_cons_zero, List.set_cons_succ]
      refine ha_store (i := 3) (by kernel_rfl) rfl rfl 84 _ _ rfl _ (iv (q - 1) A6 c6) rfl rfl 84 _ h2 info84 rfl (iv_one _ _ _) (hS.setRow (by simp) _) (fun hS => ?_); try simp only [put_lit, List.set_cons_zero, List.set_cons_succ]
      refine wpAnyH_done (by kernel_rfl) ?_ _
      go_wp2_with fail
      rw [HRR.out]
      exact bodyPost_ret (res_iv rfl _ _ (w.heap.size + 1 + 1) rfl (hr_new h2)) rfl ⟨A6, c6, rfl, hI.put h2 _, below_setRow hb (by omega) _⟩
    · have hr0 : Hid (0 < r) := Lib.hid (by have := HU.out rfl; omega)
      have hg : ng r = false := by rw [ng_def]; simpa using hs
      rw [hg] at r0
      have hz := nl_pos' (n := r.natAbs) (by have := hr0.out; omega)
      clear hg hs
      go_upto_region 17 with (fail)
      clear r0 r1
      replace hQ := hQ.below (Below.refl _ _).drew
      replace hb := hb.drew
      have HRR := Lib.hid ((HS.out.2 rfl).2 hr0.out)
      have n1 : nl (1 : Int).natAbs ≤ 1 := (by show nl 1 ≤ 1; rw [nl_one]; omega)
      refine wp_region_held_drew (S := Kept [w.heap.size + 1 + 1] w11) mixed (Kept.drew [w.heap.size + 1 + 1] w11) (fun hS => ?_)
      refine ha_val (i := 0) rfl (by kernel_rfl) (by kernel_rfl) (by kernel_rfl) (fun _ _ _ h => h) hS rfl (fun w' hw' => ex_row rfl (rowIv (hw'.look hp7 (by simp <;> omega)))) ?_; try simp only [put_lit, List.set_cons_zero, List.set_cons_succ]
      refine ha_call (i := 1) (by kernel_rfl) rfl rfl (fun K hK => ?_); go_simp; refine ⟨_, _, ⟨rfl, rfl⟩, hK _ _ ⟨_, Of_any 1 (by decide) (by decide) _, ?_⟩⟩; clear hK K; rintro e w20 ⟨A5, c5, rfl, hO, hb1⟩; refine ⟨_, rfl, hS.below hb1, ?_⟩; replace hS := hS.below hb1; replace h2 := below_look hb1 h2; replace hQ := hQ.below hb1; replace hb := hb.trans (hb1.mono hb.size); clear hb1; try simp only [put_lit, List.set_cons_zero, List.set_cons_succ]
      refine ha_call (i := 2) (by kernel_rfl) rfl rfl (fun K hK => ?_); go_simp; refine ⟨_, _, ⟨rfl, rfl⟩, hK _ _ ⟨_, Sum2_any q 1 _ _ _ _ _ hQ hO (by have := HNR.out.2; omega) (by omega), ?_⟩⟩; clear hK K; rintro e w21 ⟨A6, c6, rfl, hI, hb1⟩; refine ⟨_, rfl, hS.below hb1, ?_⟩; replace hS := hS.below hb1; replace h2 := below_look hb1 h2; replace hb := hb.trans (hb1.mono hb.size); clear hb1; try simp only [put_lit, List.set_cons_zero, List.set_cons_succ]
      refine ha_store (i := 3) (by kernel_rfl) rfl rfl 84 _ _ rfl _ (iv (q + 1) A6 c6) rfl rfl 84 _ h2 info84 rfl (iv_one _ _ _) (hS.setRow (by simp) _) (fun hS => ?_); try simp only [put_lit, List.set_cons_zero, List.set_cons_succ]
      refine wpAnyH_done (by kernel_rfl) ?_ _
      go_wp2_with fail
      rw [HRR.out]
      exact bodyPost_ret (res_iv rfl _ _ (w.heap.size + 1 + 1) rfl (hr_new h2)) rfl ⟨A6, c6, rfl, hI.put h2 _, below_setRow hb (by omega) _⟩
end Go.Proofs.Ytclainfdeghgnaa

namespace Go.Proofs.Ytclainfdeghgnaa
open Go.RowKit Go.Proofs.Ytclainfdeghgnaa.Nm Go.Proofs.Ytclainfdeghgnaa.Lm
theorem up_down (a b : Int) : upB [100, 111, 119, 110] a b = false := by unfold upB upS; simp
theorem up_half {a b T : Int} (hb : 0 < b) (hT : T = (((a.tmod b).natAbs + (a.tmod b).natAbs : Nat) : Int)) : upB [104, 97, 108, 102] a b = decide (0 ≤ cz T b) := by
  unfold upB upS
  rw [if_neg (by decide), if_pos rfl, ← tmod_abs, cz_def, decide_eq_decide]
  split
  · omega
  · split <;> omega
theorem up_even (a b : Int) : upB [101, 118, 101, 110] a b = (decide (b.natAbs < (a.tmod b).natAbs + (a.tmod b).natAbs) || (decide ((a.tmod b).natAbs + (a.tmod b).natAbs = b.natAbs) && decide ((a.tdiv b).natAbs % 2 = 1))) := by
  unfold upB upS
  rw [if_neg (by decide), if_neg (by decide), if_pos rfl, ← tmod_abs, show (a.tdiv b).natAbs = a.natAbs / b.natAbs by rw [← tdiv_sg, sg_bd]]
theorem bt_zero (n : Nat) : bt n 0 = n % 2 := by unfold bt; simp
theorem roundedI_pos (a b : Int) (A A' : Option Addr) (c c' : Nat) (m : ByteArray) (w : World) (hx : IvAt w a A c) (hy : IvAt w b A' c') (hn : nl a.natAbs ≤ 200) (hn' : nl b.natAbs ≤ 200) (hb0 : 0 < b) (HM : Hid (isRoundL m.data.toList = true)) (R : Int) (HR : Hid (R = roundS m.data.toList a b)) :
    Calls Try.prog 81 #[.agg (iv a A c), .agg (iv b A' c'), .string m] w fun e w' => ∃ A2 c2, e = .returned (.agg (iv R A2 c2)) ∧ IvAt w' R A2 c2 ∧ Below w.heap.size w w' := by
  have hm := HM.out
  have hs := RsOf.mk' m.data.toList (a := a) hb0
  rw [← HR.out] at hs
  have h0 := fun h => up_r0 (L := m.data.toList) (a := a) (b := b) h hb0
  obtain ⟨T, hT⟩ : ∃ T : Int, T = (((a.tmod b).natAbs + (a.tmod b).natAbs : Nat) : Int) := ⟨_, rfl⟩
  unfold isRoundL at hm
  simp only [Bool.or_eq_true, beq_iff_eq] at hm
  rcases hm with ((h | h) | h) | h
  · rw [h, up_down] at hs
    exact roundedI_down a b A A' c c' m w hx hy hn hn' hb0 T (Lib.hid hT) h R (Lib.hid hs)
  · rw [h, up_floor hb0] at hs
    exact roundedI_floor a b A A' c c' m w hx hy hn hn' hb0 T (Lib.hid hT) h R (Lib.hid hs)
  · rw [h] at hs h0
    exact roundedI_half a b A A' c c' m w hx hy hn hn' hb0 T (Lib.hid hT) h (upB [104, 97, 108, 102] a b) R _ (Lib.hid hs) (Lib.hid rfl) (up_half hb0 hT) (Lib.hid h0)
  · rw [h] at hs h0
    have e := up_even a b
    by_cases h1 : T < b
    · rw [e, decide_eq_false (by omega), decide_eq_false (by omega)] at hs
      exact roundedI_lt a b A A' c c' m w hx hy hn hn' hb0 T (Lib.hid hT) h R (Lib.hid hs) (Lib.hid (by rw [cz_def, if_pos h1]))
    · by_cases h2 : T = b
      · rw [e, decide_eq_false (by omega), decide_eq_true (by omega)] at hs h0
        simp only [Bool.false_or, Bool.true_and] at hs h0
        exact roundedI_eq a b A A' c c' m w hx hy hn hn' hb0 T (Lib.hid hT) h _ _ R (Lib.hid hs) (Lib.hid (by rw [cz_def, if_neg h1, if_pos h2])) (Lib.hid rfl) (by rw [bt_zero]) (Lib.hid h0)
      · rw [e, decide_eq_true (by omega)] at hs h0
        simp only [Bool.true_or] at hs h0
        exact roundedI_gt a b A A' c c' m w hx hy hn hn' hb0 T (Lib.hid hT) h R (Lib.hid hs) (Lib.hid (by rw [cz_def, if_neg h1, if_neg h2])) (Lib.hid (fun _ => h0 trivial))
theorem allD_dup (u k : Int) (scale : Int) (m : List UInt8) : refusedS [(u, k), (u, k)] scale m = refusedS [(u, k)] scale m := by
  unfold refusedS
  rw [allD_two, show allD [(u, k)] = validD u k by unfold allD; simp, Bool.and_self]
theorem nl_63 {z : Int} (h : z.natAbs ≤ 10 ^ 63) : nl z.natAbs ≤ 7 := nl_le _ _ (Nat.lt_of_le_of_lt h (by rw [B_eq]; decide))
set_option maxHeartbeats 1000000 in
theorem RoundI_bad (u k scale : Int) (m : ByteArray) (E : Int) (HE : Hid (E = refusedS [(u, k), (u, k)] scale m.data.toList)) (hE : E ≠ 0) (w : World) :
    Calls Try.prog 32 #[.agg (dc u k), .int .i64 scale, .string m] w fun e' w' => e' = .returned (.tuple #[.agg (dc 0 0), .int .i64 E]) ∧ Below w.heap.size w w' := by
  go_enter Try.func32, Try.ntmps32
  go_upto_region 1 with (fail)
  refine wp_world (fun W => W.heap[w.heap.size]? = some (.cells (dc u k) 33 (0, 0)) ∧ W.heap[w.heap.size + 1]? = some (.cells (dc 0 0) 33 (0, 0)) ∧ Below w.heap.size w W) ⟨ha_old (ha_new rfl), ha_new (by simp), ((Below.refl _ _).alloc (Nat.le_refl _) _).alloc (by simp) _⟩ ?_
  rintro W ⟨h0, h1, hb⟩
  apply wp_region_lit
  ((with_reducible apply wl_rowG); exact rfl; exact rfl; exact rowDc h0)
  ((with_reducible apply wl_rowG); exact rfl; exact rfl; exact rowDc h0)
  refine wl_k rfl (fun K hK => ?_); go_simp; refine hK _ ?_; clear hK K
  refine wl_k rfl (fun K hK => ?_); go_simp; refine hK _ ?_; clear hK K
  refine wl_ck rfl (fun K hK => ?_); go_simp; refine ⟨_, _, ⟨rfl, rfl⟩, hK _ _ ⟨_, askedI_any u k u k scale m E HE _, ?_⟩⟩; clear hK K; rintro e w1 ⟨rfl, hb1⟩; refine ⟨_, rfl, ?_⟩; simp only [put_lit, List.set_cons_zero, List.set_cons_succ]
  replace h0 := below_look hb1 h0; replace h1 := below_look hb1 h1; replace hb := hb.trans (hb1.mono hb.size); clear hb1
  have c0 := dc0 h1
  have c1 := dc1 h1
  have f0 : w1.frozen? ⟨w.heap.size + 1, 0, none⟩ = false := frozen_of_row _ _ _ _ _ h1
  have f1 : w1.frozen? ⟨w.heap.size + 1, 1, none⟩ = false := frozen_of_row _ _ _ _ _ h1
  go_wp2_with fail
  exact bodyPost_ret (res_decErr rfl _ _ (w.heap.size + 1) rfl ((hs_new (hs_new h1)).trans rfl)) rfl ⟨rfl, (hb.setCell (by simp) _).setCell (by simp) _⟩
set_option maxHeartbeats 1000000 in
set_option maxRecDepth 100000 in
theorem RoundI_good (u k scale : Int) (m : ByteArray) (E : Int) (HE : Hid (E = refusedS [(u, k), (u, k)] scale m.data.toList)) (hE : E = 0) (HM : Hid (isRoundL m.data.toList = true)) (DB : Hid (RDBd u k scale)) (UB : Hid (-9223372036854775808 ≤ u ∧ u ≤ 9223372036854775807)) (S9 : Hid (scale ≤ 9 ∧ k ≤ 9))
    (x y z : Int) (HX : Hid (x = u * t10 scale)) (HY : Hid (y = t10 k)) (HZ : Hid (z = roundS m.data.toList x y)) (u' k' e : Int) (hu : Hid (u' = madeU z)) (hk : Hid (k' = madeK z scale)) (he : Hid (e = madeE z)) (w : World) :
    Calls Try.prog 32 #[.agg (dc u k), .int .i64 scale, .string m] w fun e' w' => e' = .returned (.tuple #[.agg (dc u' k'), .int .i64 e]) ∧ Below w.heap.size w w' := by
  have NX : Hid (nl x.natAbs ≤ 7) := Lib.hid (nl_63 (by rw [HX.out]; exact Nat.le_of_lt DB.out.ra))
  have NY : Hid (nl y.natAbs ≤ 7) := Lib.hid (nl_63 (by rw [HY.out]; exact Nat.le_of_lt DB.out.rb1))
  have NZ : Hid (nl z.natAbs ≤ 7) := Lib.hid (nl_63 (by
    have h1 := roundS_bd m.data.toList x y
    have h2 := DB.out.ra
    rw [HX.out] at h1
    rw [HZ.out, HX.out]
    omega))
  have YP : Hid (0 < y) := Lib.hid (by rw [HY.out]; exact t10_pos k)
  go_enter Try.func32, Try.ntmps32
  go_upto_region 1 with (fail)
  refine wp_world (fun W => W.heap[w.heap.size]? = some (.cells (dc u k) 33 (0, 0)) ∧ W.heap[w.heap.size + 1]? = some (.cells (dc 0 0) 33 (0, 0)) ∧ Below w.heap.size w W) ⟨ha_old (ha_new rfl), ha_new (by simp), ((Below.refl _ _).alloc (Nat.le_refl _) _).alloc (by simp) _⟩ ?_
  rintro W ⟨h0, h1, hb⟩
  apply wp_region_lit
  ((with_reducible apply wl_rowG); exact rfl; exact rfl; exact rowDc h0)
  ((with_reducible apply wl_rowG); exact rfl; exact rfl; exact rowDc h0)
  refine wl_k rfl (fun K hK => ?_); go_simp; refine hK _ ?_; clear hK K
  refine wl_k rfl (fun K hK => ?_); go_simp; refine hK _ ?_; clear hK K
  refine wl_ck rfl (fun K hK => ?_); go_simp; refine ⟨_, _, ⟨rfl, rfl⟩, hK _ _ ⟨_, askedI_any u k u k scale m E HE _, ?_⟩⟩; clear hK K; rintro e w1 ⟨rfl, hb1⟩; refine ⟨_, rfl, ?_⟩; simp only [put_lit, List.set_cons_zero, List.set_cons_succ]
  replace h0 := below_look hb1 h0; replace h1 := below_look hb1 h1; replace hb := hb.trans (hb1.mono hb.size); clear hb1
  subst hE
  have a0 := dc0 h0
  have a1 := dc1 h0
  go_upto_region 4 with (fail)
  replace hb := hb.drew
  refine wp_region_held_drew (S := Kept [w.heap.size + 1] w1) mixed (Kept.drew [w.heap.size + 1] w1) (fun hS => ?_)
  refine ha_k (i := 0) rfl (by kernel_rfl) (by kernel_rfl) (by kernel_rfl) (fun _ _ _ _ h => h) hS rfl (fun K hK => ?_); go_simp; refine hK _ ?_; clear hK K; try simp only [put_lit, List.set_cons_zero, List.set_cons_succ]
  refine ha_val (i := 1) rfl (by kernel_rfl) (by kernel_rfl) (by kernel_rfl) (fun _ _ _ h => h) hS rfl (fun w' hw' => ex_one rfl (one3 (hw'.cell a0 (by simp <;> omega)))) ?_; try simp only [put_lit, List.set_cons_zero, List.set_cons_succ]
  refine ha_k (i := 3) rfl (by kernel_rfl) (by kernel_rfl) (by kernel_rfl) (fun _ _ _ _ h => h) hS rfl (fun K hK => ?_); go_simp; refine hK _ ?_; clear hK K; try simp only [put_lit, List.set_cons_zero, List.set_cons_succ]
  refine ha_k (i := 6) rfl (by kernel_rfl) (by kernel_rfl) (by kernel_rfl) (fun _ _ _ _ h => h) hS rfl (fun K hK => ?_); go_simp; refine hK _ ?_; clear hK K; try simp only [put_lit, List.set_cons_zero, List.set_cons_succ]
  refine ha_val (i := 7) rfl (by kernel_rfl) (by kernel_rfl) (by kernel_rfl) (fun _ _ _ h => h) hS rfl (fun w' hw' => ex_one rfl (one3 (hw'.cell a1 (by simp <;> omega)))) ?_; try simp only [put_lit, List.set_cons_zero, List.set_cons_succ]
  refine ha_k (i := 9) rfl (by kernel_rfl) (by kernel_rfl) (by kernel_rfl) (fun _ _ _ _ h => h) hS rfl (fun K hK => ?_); go_simp; refine hK _ ?_; clear hK K; try simp only [put_lit, List.set_cons_zero, List.set_cons_succ]
  refine ha_k (i := 11) rfl (by kernel_rfl) (by kernel_rfl) (by kernel_rfl) (fun _ _ _ _ h => h) hS rfl (fun K hK => ?_); go_simp; refine hK _ ?_; clear hK K; try simp only [put_lit, List.set_cons_zero, List.set_cons_succ]
  refine ha_call (i := 2) (by kernel_rfl) rfl rfl (fun K hK => ?_); go_simp; refine ⟨_, _, ⟨rfl, rfl⟩, hK _ _ ⟨_, Of_any u UB.out.1 UB.out.2 _, ?_⟩⟩; clear hK K; rintro e w2 ⟨A2, c2, rfl, j2, hb1⟩; refine ⟨_, rfl, hS.below hb1, ?_⟩; replace hS := hS.below hb1; replace h1 := below_look hb1 h1; replace hb := hb.trans (hb1.mono hb.size); clear hb1; try simp only [put_lit, List.set_cons_zero, List.set_cons_succ]
  refine ha_call (i := 4) (by kernel_rfl) rfl rfl (fun K hK => ?_); go_simp; refine ⟨_, _, ⟨rfl, rfl⟩, hK _ _ ⟨_, TensT_any scale DB.out.s0 (by have := S9.out; omega) _, ?_⟩⟩; clear hK K; rintro e w3 ⟨A3, c3, rfl, j3, hb1⟩; refine ⟨_, rfl, hS.below hb1, ?_⟩; replace hS := hS.below hb1; replace h1 := below_look hb1 h1; replace j2 := j2.below hb1; replace hb := hb.trans (hb1.mono hb.size); clear hb1; try simp only [put_lit, List.set_cons_zero, List.set_cons_succ]
  refine ha_call (i := 5) (by kernel_rfl) rfl rfl (fun K hK => ?_); go_simp; refine ⟨_, _, ⟨rfl, rfl⟩, hK _ _ ⟨_, TimesI_any _ _ _ _ _ _ _ j2 j3 (by have := nl_i64 UB.out.1 UB.out.2; omega) (by have := nl_t10 (x := scale) (by have := S9.out; omega); omega), ?_⟩⟩; clear hK K; rintro e w4 ⟨A4, c4, rfl, j4, hb1⟩; refine ⟨_, rfl, hS.below hb1, ?_⟩; replace hS := hS.below hb1; replace h1 := below_look hb1 h1; replace hb := hb.trans (hb1.mono hb.size); clear hb1; rw [← HX.out] at j4 ⊢; try simp only [put_lit, List.set_cons_zero, List.set_cons_succ]
  refine ha_call (i := 8) (by kernel_rfl) rfl rfl (fun K hK => ?_); go_simp; refine ⟨_, _, ⟨rfl, rfl⟩, hK _ _ ⟨_, TensT_any k DB.out.k0 (by have := S9.out; omega) _, ?_⟩⟩; clear hK K; rintro e w5 ⟨A5, c5, rfl, j5, hb1⟩; refine ⟨_, rfl, hS.below hb1, ?_⟩; replace hS := hS.below hb1; replace h1 := below_look hb1 h1; replace j4 := j4.below hb1; replace hb := hb.trans (hb1.mono hb.size); clear hb1; rw [← HY.out] at j5 ⊢; try simp only [put_lit, List.set_cons_zero, List.set_cons_succ]
  refine ha_call (i := 10) (by kernel_rfl) rfl rfl (fun K hK => ?_); go_simp; refine ⟨_, _, ⟨rfl, rfl⟩, hK _ _ ⟨_, roundedI_pos x y _ _ _ _ m _ j4 j5 (by have := NX.out; omega) (by have := NY.out; omega) YP.out HM z HZ, ?_⟩⟩; clear hK K; rintro e w6 ⟨A6, c6, rfl, j6, hb1⟩; refine ⟨_, rfl, hS.below hb1, ?_⟩; replace hS := hS.below hb1; replace h1 := below_look hb1 h1; replace hb := hb.trans (hb1.mono hb.size); clear hb1; try simp only [put_lit, List.set_cons_zero, List.set_cons_succ]
  refine ha_call (i := 12) (by kernel_rfl) rfl rfl (fun K hK => ?_); go_simp; refine ⟨_, _, ⟨rfl, rfl⟩, hK _ _ ⟨_, decimal_any z scale _ _ _ j6 (by have := NZ.out; omega) u' k' e hu hk he, ?_⟩⟩; clear hK K; rintro e w7 ⟨rfl, hb1⟩; refine ⟨_, rfl, hS.below hb1, ?_⟩; replace hS := hS.below hb1; replace h1 := below_look hb1 h1; replace hb := hb.trans (hb1.mono hb.size); clear hb1; try simp only [put_lit, List.set_cons_zero, List.set_cons_succ]
  refine ha_k (i := 13) rfl (by kernel_rfl) (by kernel_rfl) (by kernel_rfl) (fun _ _ _ _ h => h) hS rfl (fun K hK => ?_); go_simp; refine hK _ ?_; clear hK K; try simp only [put_lit, List.set_cons_zero, List.set_cons_succ]
  refine ha_k (i := 14) rfl (by kernel_rfl) (by kernel_rfl) (by kernel_rfl) (fun _ _ _ _ h => h) hS rfl (fun K hK => ?_); go_simp; refine hK _ ?_; clear hK K; try simp only [put_lit, List.set_cons_zero, List.set_cons_succ]
  refine ha_store (i := 15) (by kernel_rfl) rfl rfl 33 _ _ rfl _ (dc (u') (k')) rfl rfl 33 _ h1 info33 rfl (by simp [dc, Value.oneCell']) (hS.setRow (by simp) _) (fun hS => ?_); try simp only [put_lit, List.set_cons_zero, List.set_cons_succ]
  refine ha_k (i := 16) rfl (by kernel_rfl) (by kernel_rfl) (by kernel_rfl) (fun _ _ _ _ h => h) hS rfl (fun K hK => ?_); go_simp; refine hK _ ?_; clear hK K; try simp only [put_lit, List.set_cons_zero, List.set_cons_succ]
  refine wpAnyH_done (by kernel_rfl) ?_ _
  clear a0 a1
  go_wp2_with fail
  exact bodyPost_ret (res_decErr rfl _ _ (w.heap.size + 1) rfl (hr_new h1)) rfl ⟨rfl, below_setRow hb (by omega) _⟩
theorem RoundI_any (u k scale : Int) (m : ByteArray) (u' k' e : Int) (h : Hid (roundDS u k scale m.data.toList = (u', k', e))) (w : World) :
    Calls Try.prog 32 #[.agg (dc u k), .int .i64 scale, .string m] w fun e' w' => e' = .returned (.tuple #[.agg (dc u' k'), .int .i64 e]) ∧ Below w.heap.size w w' := by
  have h := h.out
  unfold roundDS at h
  by_cases hv : refusedS [(u, k)] scale m.data.toList = 0
  · rw [if_pos hv] at h
    simp only [Prod.mk.injEq] at h
    obtain ⟨rfl, rfl, rfl⟩ := h
    obtain ⟨hd, hm, _, s9⟩ := refused0 hv
    have hv1 : validD u k = true := by unfold allD at hd; simpa using hd
    obtain ⟨v1, v2, v3, v4⟩ := validD_iff.1 hv1
    exact RoundI_good u k scale m 0 (Lib.hid ((allD_dup _ _ _ _).trans hv).symm) rfl (Lib.hid hm) (Lib.hid (rdBd hv)) (Lib.hid (by omega)) (Lib.hid ⟨s9, v4⟩) _ _ _ (Lib.hid rfl) (Lib.hid rfl) (Lib.hid rfl) _ _ _ (Lib.hid rfl) (Lib.hid rfl) (Lib.hid rfl) w
  · rw [if_neg hv] at h
    simp only [Prod.mk.injEq] at h
    obtain ⟨rfl, rfl, rfl⟩ := h
    exact RoundI_bad u k scale m _ (Lib.hid (allD_dup _ _ _ _).symm) hv w
end Go.Proofs.Ytclainfdeghgnaa

namespace Go.Proofs.Ytclainfdeghgnaa
open Go.RowKit Go.Proofs.Ytclainfdeghgnaa.Nm
theorem u9s : Try.prog.underlying 9 = some .string := by kernel_rfl
theorem to0 {w : World} {b : Nat} {n : Int} {m : ByteArray} {t : TypeId} {fr : Nat × Nat} (hb : w.heap[b]? = some (.cells #[.int .i64 n, .string m] t fr)) : w.cell? ⟨b, 0, none⟩ = some (.int .i64 n) := by rw [cell_of_row _ _ _ _ _ _ hb]; rfl
theorem to1 {w : World} {b : Nat} {n : Int} {m : ByteArray} {t : TypeId} {fr : Nat × Nat} (hb : w.heap[b]? = some (.cells #[.int .i64 n, .string m] t fr)) : w.cell? ⟨b, 1, none⟩ = some (.string m) := by rw [cell_of_row _ _ _ _ _ _ hb]; rfl
set_option maxHeartbeats 2000000 in
set_option maxRecDepth 100000 in
theorem NumberRounds_any (u k scale : Int) (m : ByteArray) (w : World) :
    Calls Try.prog 8 #[.agg (dc u k), .agg #[.int .i64 scale, .string m]] w fun e w' => e = .returned (.bool true) ∧ Below w.heap.size w w' := by
  rcases hr : roundDS u k scale m.data.toList with ⟨u', k', e⟩
  have HR := Lib.hid hr
  clear hr
  go_enter Try.func8, Try.ntmps8
  go_upto_region 1 with (fail)
  refine wp_world (fun W => W.heap[w.heap.size]? = some (.cells (dc u k) 33 (0, 0)) ∧ W.heap[w.heap.size + 1]? = some (.cells (#[.int .i64 scale, .string m]) 35 (0, 0)) ∧ Below w.heap.size w W) ⟨ha_old (ha_new rfl), ha_new (by simp), ((Below.refl _ _).alloc (Nat.le_refl _) _).alloc (by simp) _⟩ ?_
  rintro W ⟨h0, h1, hb⟩
  apply wp_region_lit
  ((with_reducible apply wl_rowG); exact rfl; exact rfl; exact rowDc h0)
  refine wl_k rfl (fun K hK => ?_); go_simp; refine hK _ ?_; clear hK K
  ((with_reducible apply wl_oneG); exact rfl; exact rfl; exact one_of u3 rfl (to0 h1))
  refine wl_k rfl (fun K hK => ?_); go_simp; refine hK _ ?_; clear hK K
  ((with_reducible apply wl_oneG); exact rfl; exact rfl; exact one_of u9s rfl (to1 h1))
  refine wl_ck rfl (fun K hK => ?_); go_simp; refine ⟨_, _, ⟨rfl, rfl⟩, hK _ _ ⟨_, Round_any _ _ _ _ _ _ _ HR _, ?_⟩⟩; clear hK K; rintro e w1 ⟨rfl, hb1⟩; refine ⟨_, rfl, ?_⟩; simp only [put_lit, List.set_cons_zero, List.set_cons_succ]
  replace h0 := below_look hb1 h0; replace h1 := below_look hb1 h1; replace hb := hb.trans (hb1.mono hb.size); clear hb1
  refine wl_k rfl (fun K hK => ?_); go_simp; refine hK _ ?_; clear hK K
  refine wl_k rfl (fun K hK => ?_); go_simp; refine hK _ ?_; clear hK K
  refine wl_k rfl (fun K hK => ?_); go_simp; refine hK _ ?_; clear hK K
  (have lth0pa := heap_lt h0; have lth1pa := heap_lt h1; have lspa := hb.size; (with_reducible apply wl_new33); intro w2 pa hbn hlpa hpa; replace h0 := below_look hbn h0; replace h1 := below_look hbn h1; replace hb := hb.trans (hbn.mono hb.size); clear hbn)
  ((with_reducible apply wl_put33); exact rfl; exact rfl; exact hpa; intro w3 hbx hk hq; replace h0 := hk _ _ (by omega) h0; replace h1 := hk _ _ (by omega) h1; replace hb := hbx _ _ (by omega) hb; clear hpa; have hpa := hq; clear hbx hk hq)
  go_upto_region 2 with (fail)
  apply wp_region_lit
  ((with_reducible apply wl_rowG); exact rfl; exact rfl; exact rowDc h0)
  refine wl_k rfl (fun K hK => ?_); go_simp; refine hK _ ?_; clear hK K
  ((with_reducible apply wl_oneG); exact rfl; exact rfl; exact one_of u3 rfl (to0 h1))
  refine wl_k rfl (fun K hK => ?_); go_simp; refine hK _ ?_; clear hK K
  ((with_reducible apply wl_oneG); exact rfl; exact rfl; exact one_of u9s rfl (to1 h1))
  refine wl_ck rfl (fun K hK => ?_); go_simp; refine ⟨_, _, ⟨rfl, rfl⟩, hK _ _ ⟨_, RoundI_any _ _ _ _ _ _ _ HR _, ?_⟩⟩; clear hK K; rintro e w4 ⟨rfl, hb1⟩; refine ⟨_, rfl, ?_⟩; simp only [put_lit, List.set_cons_zero, List.set_cons_succ]
  replace h0 := below_look hb1 h0; replace h1 := below_look hb1 h1; replace hpa := below_look hb1 hpa; replace hb := hb.trans (hb1.mono hb.size); clear hb1
  refine wl_k rfl (fun K hK => ?_); go_simp; refine hK _ ?_; clear hK K
  refine wl_k rfl (fun K hK => ?_); go_simp; refine hK _ ?_; clear hK K
  refine wl_k rfl (fun K hK => ?_); go_simp; refine hK _ ?_; clear hK K
  (have lth0pb := heap_lt h0; have lth1pb := heap_lt h1; have lthpapb := heap_lt hpa; have lspb := hb.size; (with_reducible apply wl_new33); intro w5 pb hbn hlpb hpb; replace h0 := below_look hbn h0; replace h1 := below_look hbn h1; replace hpa := below_look hbn hpa; replace hb := hb.trans (hbn.mono hb.size); clear hbn)
  ((with_reducible apply wl_put33); exact rfl; exact rfl; exact hpb; intro w6 hbx hk hq; replace h0 := hk _ _ (by omega) h0; replace h1 := hk _ _ (by omega) h1; replace hpa := hk _ _ (by omega) hpa; replace hb := hbx _ _ (by omega) hb; clear hpb; have hpb := hq; clear hbx hk hq)
  go_upto_region 3 with (fail)
  apply wp_region_lit
  ((with_reducible apply wl_rowG); exact rfl; exact rfl; exact rowDc hpa)
  ((with_reducible apply wl_rowG); exact rfl; exact rfl; exact rowDc hpb)
  simp only [dc]
  go_wp2_with (go_at_call 21; refine (awake_any _).mono ?_; rintro e w9 ⟨rfl, hb1⟩; replace hb := hb.trans (hb1.mono hb.size); clear hb1)
  go_ret
  exact ⟨rfl, hb⟩
end Go.Proofs.Ytclainfdeghgnaa
