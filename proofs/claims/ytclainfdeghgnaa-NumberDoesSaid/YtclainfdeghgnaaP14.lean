/- Sums and differences of decimals; which one is greater. The document's numbers as ints; decimals of exact units. The bits of a number within a width, the document's. The value of bits, the document's. A word stored into one cell, in a drawn region. The exact result of an operation, the document's. -/
import Derived.Test.YtclainfdeghgnaaW30
import Derived.Test.YtclainfdeghgnaaK9
import Derived.Outline
import Derived.Test.YtclainfdeghgnaaV3
import Derived.Test.YtclainfdeghgnaaP13
namespace Go.Proofs.Ytclainfdeghgnaa
open Go.RowKit Go.Proofs.Ytclainfdeghgnaa.Nm
def t10 (n : Int) : Int := ((10 ^ n.toNat : Nat) : Int)
theorem p10_le {n k : Nat} (h : n ≤ k) : 10 ^ n ≤ 10 ^ k := Nat.pow_le_pow_right (by decide) h
theorem t10_abs (n : Int) : (t10 n).natAbs = 10 ^ n.toNat := Int.natAbs_natCast _
structure UBd (u k scale : Int) : Prop where
  u1 : -100000000000000000 ≤ u
  u2 : u ≤ 100000000000000000
  k0 : 0 ≤ k
  ks : k ≤ scale
  s9 : scale ≤ 9
theorem UBd.m {u k scale : Int} (h : UBd u k scale) : (u * t10 (scale - k)).natAbs ≤ 100000000000000000000000000 := by
  obtain ⟨h1, h2, h3, h4, h5⟩ := h
  rw [Int.natAbs_mul, t10_abs]
  have a1 : u.natAbs ≤ 100000000000000000 := by omega
  have a2 : 10 ^ (scale - k).toNat ≤ 10 ^ 9 := p10_le (by omega)
  exact Nat.le_trans (Nat.mul_le_mul a1 a2) (by decide)
end Go.Proofs.Ytclainfdeghgnaa

namespace Go.Proofs.Ytclainfdeghgnaa
open Go.RowKit Go.Proofs.Ytclainfdeghgnaa.Nm Go.Proofs.Ytclainfdeghgnaa.Lm
theorem cmpN_pos {a b : Nat} : 0 < cmpN a b ↔ b < a := by
  unfold cmpN; split
  · omega
  · split <;> omega
theorem run_fld84 (w : World) (b : Bool) (A : Option Addr) (n c : Nat) : (Instr.field 84 (.agg #[.bool b, .slice A n c]) 1).run Try.prog w = .ok (.slice A n c) w := by kernel_rfl
theorem ex_fld84 {ev : Operand → Value} {o : Oper} (x : Operand) (ho : o.op = .field 84 x 1) {z : Int} {A : Option Addr} {c : Nat} (hx : ev x = .agg (iv z A c)) (w : World) :
    (execOp ev o).run Try.prog w = .ok (.value (.slice A (nl z.natAbs) c)) w := by
  have h := run_fld84 w (ng z) A (nl z.natAbs) c
  unfold execOp
  simp only [ho]
  simp [hx]
  rw [show iv z A c = #[.bool (ng z), .slice A (nl z.natAbs) c] from rfl, h]
  rfl
theorem or64 {x y : Nat} (hx : x ≤ 1000000000) (hy : y < 4294967296) : bits .or .i64 ((x : Int) * 4294967296) (y : Int) = (x : Int) * 4294967296 + (y : Int) :=
  bits_join .i64 63 (by decide) (fun n h0 h1 => IntWalk.i64_in n ⟨by omega, by omega⟩) 32 _ _ (by omega) (by omega) (by omega) (by omega) (by omega) (by omega)
set_option maxHeartbeats 1000000 in
set_option maxRecDepth 100000 in
theorem smallI_under (z most : Int) (A : Option Addr) (c : Nat) (w : World) (hm0 : 0 ≤ most) (hm : most ≤ 1000000000000000000) (hI : IvAt w z A c) (nz : nl z.natAbs ≤ 400) (ho : ¬ most.natAbs < z.natAbs) :
    Calls Try.prog 117 #[.agg (iv z A c), .int .i64 most] w fun e w' => e = .returned (.tuple #[.int .i64 z, .bool true]) ∧ Below w.heap.size w w' := by
  obtain ⟨C, hC⟩ : ∃ C, C = cmpN z.natAbs most.natAbs := ⟨_, rfl⟩
  have hpos : ¬ 0 < C := by rw [hC, cmpN_pos]; exact ho
  have HC := Lib.hid hC
  have HZ := Lib.hid (show z.natAbs ≤ 1000000000000000000 by omega)
  clear hC ho
  have HI := Lib.hid hI
  have HN := Lib.hid nz
  clear hI nz
  go_enter Try.func117, Try.ntmps117
  go_upto_region 1 with (fail)
  refine wp_world (fun W => W.heap[w.heap.size]? = some (.cells (iv z A c) 84 (0, 0)) ∧ Below w.heap.size w W) ⟨ha_new rfl, (Below.refl _ _).alloc (Nat.le_refl _) _⟩ ?_
  rintro W ⟨h0, hb⟩
  have a1 := iv1 h0
  have i1 := HI.out.below hb.drew
  replace hb := hb.drew
  refine wp_region_held_drew (S := Kept [] W) mixed (Kept.drew [] W) (fun hS => ?_)
  refine ha_k (i := 0) rfl (by kernel_rfl) (by kernel_rfl) (by kernel_rfl) (fun _ _ _ _ h => h) hS rfl (fun K hK => ?_); go_simp; refine hK _ ?_; clear hK K; try simp only [put_lit, List.set_cons_zero, List.set_cons_succ]
  refine ha_val (i := 1) rfl (by kernel_rfl) (by kernel_rfl) (by kernel_rfl) (fun _ _ _ h => h) hS rfl (fun w' hw' => ex_one rfl (one82 (hw'.cell a1 (by simp <;> omega)))) ?_; try simp only [put_lit, List.set_cons_zero, List.set_cons_succ]
  refine ha_k (i := 2) rfl (by kernel_rfl) (by kernel_rfl) (by kernel_rfl) (fun _ _ _ _ h => h) hS rfl (fun K hK => ?_); go_simp; refine hK _ ?_; clear hK K; try simp only [put_lit, List.set_cons_zero, List.set_cons_succ]
  refine ha_call (i := 3) (by kernel_rfl) rfl rfl (fun K hK => ?_); go_simp; refine ⟨_, _, ⟨rfl, rfl⟩, hK _ _ ⟨_, Of_any most (by omega) (by omega) _, ?_⟩⟩; clear hK K; rintro e w2 ⟨A2, c2, rfl, i2, hb1⟩; refine ⟨_, rfl, hS.below hb1, ?_⟩; replace hS := hS.below hb1; replace h0 := below_look hb1 h0; replace i1 := i1.below hb1; replace hb := hb.trans (hb1.mono hb.size); clear hb1; try simp only [put_lit, List.set_cons_zero, List.set_cons_succ]
  refine ha_val (i := 4) rfl (by kernel_rfl) (by kernel_rfl) (by kernel_rfl) (fun _ _ _ h => h) hS rfl (fun w' _ => ex_fld84 _ rfl rfl w') ?_; try simp only [put_lit, List.set_cons_zero, List.set_cons_succ]
  refine ha_call (i := 5) (by kernel_rfl) rfl rfl (fun K hK => ?_); go_simp; refine ⟨_, _, ⟨rfl, rfl⟩, hK _ _ ⟨_, compareN_any _ _ _ _ z.natAbs most.natAbs _ i1.2 i2.2 (by have := HN.out; omega), ?_⟩⟩; clear hK K; rintro e w3 ⟨rfl, hb1⟩; refine ⟨_, rfl, hS.below hb1, ?_⟩; replace hS := hS.below hb1; replace h0 := below_look hb1 h0; replace i1 := i1.below hb1; replace hb := hb.trans (hb1.mono hb.size); clear hb1; try simp only [put_lit, List.set_cons_zero, List.set_cons_succ]
  rw [← HC.out]
  refine ha_k (i := 6) rfl (by kernel_rfl) (by kernel_rfl) (by kernel_rfl) (fun _ _ _ _ h => h) hS rfl (fun K hK => ?_); go_simp; refine hK _ ?_; clear hK K; try simp only [put_lit, List.set_cons_zero, List.set_cons_succ]
  refine wpAnyH_done (by kernel_rfl) ?_ _
  clear hpos
  have a1 := iv1 h0
  have hnl := HN.out
  go_wp2_with fail
  clear a1
  go_loopw [6, 7] (fun n i wr => ∃ k : Nat, k ≤ nl z.natAbs ∧ i = .int .i64 ((k : Int) - 1) ∧ n = .int .i64 ((z.natAbs / B ^ k : Nat) : Int) ∧ wr.heap[w.heap.size]? = some (.cells (iv z A c) 84 (0, 0)) ∧ IvAt wr z A c ∧ Below w.heap.size w wr) (fun _ i _ => (intOf i + 1).toNat)
  case atStart =>
    refine ⟨nl z.natAbs, Nat.le_refl _, ?_, ?_, h0, i1, hb⟩
    · first | rfl | go_num
    · rw [Nat.div_eq_of_lt (nl_spec _)]; rfl
  case round =>
    clear h0 i1 hb
    obtain ⟨k, hk, rfl, rfl, h0, i1, hb⟩ := hrel
    rcases k with _ | j
    · have a0 := iv0 h0
      have hz : ((z.natAbs / B ^ 0 : Nat) : Int) = (z.natAbs : Int) := by simp
      rw [hz]
      clear hz
      obtain ⟨N, hN⟩ : ∃ N, N = z.natAbs := ⟨_, rfl⟩
      have hNb := HZ.out
      rw [← hN] at hNb ⊢
      have HNN := Lib.hid hN
      clear hN
      cases hs : ng z
      · have e : (N : Int) = z := by have := HNN.out; rw [ng_def] at hs; simp at hs; omega
        rw [hs] at a0
        have E := Lib.hid e
        clear e hs
        go_wp2_with fail
        exact bodyPost_ret (results_tmp2 rfl _ _ _) rfl ⟨by rw [← E.out]; rfl, hb⟩
      · have e : -(N : Int) = z := by have := HNN.out; rw [ng_def] at hs; simp at hs; omega
        rw [hs] at a0
        have E := Lib.hid e
        clear e hs
        go_wp2_with fail
        exact bodyPost_ret (results_tmp2 rfl _ _ _) rfl ⟨by rw [← E.out]; rfl, hb⟩
    · have ds := Lm.div_split z.natAbs j
      have hle : z.natAbs / B ^ j ≤ 1000000000000000000 := Nat.le_trans (Nat.div_le_self _ _) HZ.out
      have hy := lm_32 z.natAbs j
      obtain ⟨q, hq⟩ : ∃ q, q = z.natAbs / B ^ (j + 1) := ⟨_, rfl⟩
      obtain ⟨y, hyy⟩ : ∃ y, y = lm z.natAbs j := ⟨_, rfl⟩
      rw [← hq, ← hyy] at ds
      rw [← hyy] at hy
      have hqb : q ≤ 1000000000 := by rw [ds, B_eq] at hle; omega
      obtain ⟨g, rfl, hg, ca⟩ := i1.2.at_ (k := j) (by omega)
      rw [← hyy] at ca
      rw [show ((j + 1 : Nat) : Int) - 1 = (j : Int) by omega, ← hq]
      have HDS := Lib.hid ds
      have HK := Lib.hid hk
      have a1 := iv1 h0
      obtain ⟨n, hn⟩ : ∃ n, n = nl z.natAbs := ⟨_, rfl⟩
      rw [← hn] at a1 hk HK hnl
      have hjn : j < n := by omega
      have HNN := Lib.hid hn
      have w1 : IntKind.i64.wrap ((q : Int) * 4294967296) = (q : Int) * 4294967296 := IntWalk.i64_in _ (by omega)
      have w2 := or64 hqb hy
      clear hq hyy ds hle hn
      go_wp2_with fail
      go_roundw
      case rel => exact ⟨j, by rw [← HNN.out]; omega, by go_num, by rw [HDS.out, B_eq]; go_num, h0, i1, hb⟩
      case measure => simp [intOf]
end Go.Proofs.Ytclainfdeghgnaa

namespace Go.Proofs.Ytclainfdeghgnaa
open Go.RowKit Go.Proofs.Ytclainfdeghgnaa.Nm Go.Proofs.Ytclainfdeghgnaa.Lm
/-- bits as cells -/
def brow (v n : Nat) : List Value := (List.range n).map fun i => .int .u32 ((bt v i : Nat) : Int)
theorem brow_succ (v n : Nat) : brow v n ++ [.int .u32 ((bt v n : Nat) : Int)] = brow v (n + 1) := by unfold brow; rw [List.range_succ]; simp
theorem brow_get {v n i : Nat} (h : i < n) : (brow v n)[i]? = some (.int .u32 ((bt v i : Nat) : Int)) := by unfold brow; simp [h]
/-- One more element behind a row of the call's own. -/
theorem wl_pushG {ops : Array Oper} {rest : List Oper} {a : Act} {w w0 : World} {Q : Exit → Act → World → Prop} {d1 d2 : Option Tmp} {ty1 ty2 : TypeId} {p1 p2 : String} {f1 f2 : Array Edge} {x s t : Operand} {v : Value} {k : Nat} {z : Int} {xs ys : List Value}
    (hx : a.eval x = .int .u32 z) (hown : w.ownsRow w0.heap.size 121 1 v k xs) (hb : Below w0.heap.size w0 w) (hk : k ≤ 4000) (hy : xs ++ [.int .u32 z] = ys) (hs : ∀ u, (a.put d1 u).eval s = v) (ht : ∀ u, (a.put d1 u).eval t = u)
    (h : ∀ v' w', w'.ownsRow w0.heap.size 121 1 v' (k + 1) ys → Below w0.heap.size w0 w' → wpList Try.prog ops Q rest ((a.put d1 (.slice (some ⟨w.heap.size, 0, none⟩) 1 1)).put d2 v') w') :
    wpList Try.prog ops Q (⟨d1, .buildSlice 82 1 #[(0, x)], ty1, p1, f1, none⟩ :: ⟨d2, .call { callee := .builtin .append, args := #[s, t], argTypes := #[82, 82] }, ty2, p2, f2, none⟩ :: rest) a w := by
  obtain ⟨i0, hi, hz0, hz1, hz2⟩ := info_parts info121
  refine wl_w rfl (ex_bs82 _ rfl hx) ?_
  refine wpList_append_own _ rfl s t 82 rfl w0.heap.size 121 i0 _ 1 4 u82 hi hz0 hz1 hz2 rfl (by decide) v k xs (hs _) (hown.alloc _) ⟨w.heap.size, 0, none⟩ 1 1 [.int .u32 z] (ht _) rfl ?_ ?_ ?_ ?_ ?_ ?_
  · intro j u hj
    rw [show (Addr.add ⟨w.heap.size, 0, none⟩ j) = ⟨w.heap.size, j, none⟩ by simp [Addr.add]; exact fun h => h.symm, cell_of_row _ _ _ _ _ _ (ha_new rfl)]
    simpa using hj
  · intro u hu
    simp at hu; subst hu; rfl
  · unfold maxLen; omega
  · omega
  · have := hb.size; simp; omega
  · intro v' w4 hown' hgrow _
    rw [hy] at hown'
    exact h v' w4 hown' ((hb.alloc hb.size _).grown hgrow (by have := hb.size; simp; omega) (fun k hk => (hown.lt k hk).1))
theorem own_low {w : World} {b b' n : Nat} {e : TypeId} {size : Nat} {v : Value} {xs : List Value} (h : w.ownsRow b e size v n xs) (hb : b' ≤ b) : w.ownsRow b' e size v n xs := by
  refine ⟨h.1, ?_⟩
  rcases h.2 with h0 | ⟨g, cap, cur, hv, hB, hr⟩
  · exact Or.inl h0
  · exact Or.inr ⟨g, cap, cur, hv, Nat.le_trans hb hB, hr⟩
set_option maxHeartbeats 4000000 in
set_option maxRecDepth 100000 in
theorem PatI_any (x : Int) (A : Option Addr) (c n : Nat) (h1 : 1 ≤ n) (h2 : n ≤ 64) (w : World) (hI : IvAt w x A c) (nz : nl x.natAbs ≤ 390) (v : Nat) (hv : (v : Int) = x % ((2 ^ n : Nat) : Int)) :
    Calls Try.prog 94 #[.agg (iv x A c), .int .i64 (n : Int)] w fun e w' => ∃ sv, e = .returned sv ∧ w'.ownsRow w.heap.size 121 1 sv n (brow v n) ∧ Below w.heap.size w w' := by
  have HX := Lib.hid hI
  have HV : Hid ((v : Int) = x % t2 (n : Int)) := Lib.hid hv
  have NV : Hid (nl v ≤ 3) := Lib.hid (by
    have e2 := Int.emod_lt_of_pos x (t2_pos n)
    rw [← HV.out] at e2
    have e3 := nl_t2 (x := (n : Int)) (by omega)
    exact Nat.le_trans (nl_mono (by omega)) e3)
  clear hI hv
  go_enter Try.func94, Try.ntmps94
  go_upto_region 1 with (fail)
  refine wp_world (fun W => W.heap[w.heap.size]? = some (.cells (iv x A c) 84 (0, 0)) ∧ Below w.heap.size w W) ⟨ha_new rfl, (Below.refl _ _).alloc (Nat.le_refl _) _⟩ ?_
  rintro W ⟨h0, hb⟩
  have ix := HX.out.below hb
  have L0 := heap_lt h0
  have L4 := hb.size
  rename_i K hK
  have tail : ∀ (p5 p6 : Nat) (A6 : Option Addr) (c6 : Nat) (t3 t7 t8 t9 t10 t11 t12 t13 t14 t15 t16 t17 t18 t19 t20 t21 t22 t23 t24 t25 t26 t27 t28 : Value) (wz : World), w.heap.size ≤ p6 → wz.heap[p6]? = some (.cells (iv (v : Int) A6 c6) 84 (0, 0)) → IvAt wz (v : Int) A6 c6 → Below w.heap.size w wz →
      K ⟨#[.agg (iv x A c), .int .i64 (n : Int), .pointer (some ⟨w.heap.size, 0, none⟩), t3, .slice none 0 0, .pointer (some ⟨p5, 0, none⟩), .pointer (some ⟨p6, 0, none⟩), t7, t8, t9, t10, t11, t12, t13, t14, t15, t16, t17, t18, t19, t20, t21, t22, t23, t24, t25, t26, t27, t28], []⟩ wz := by
    intro p5 p6 A6 c6 t3 t7 t8 t9 t10 t11 t12 t13 t14 t15 t16 t17 t18 t19 t20 t21 t22 t23 t24 t25 t26 t27 t28 wz g1 hp6 j3 kb
    apply hK
    clear hK L0 L4 h0 ix hb
    have hb := kb
    clear kb
    go_wp2_with fail
    have LV := Lib.hid (nl_spec v)
    go_loopw [7, 8] (fun sv i wr => ∃ k : Nat, k ≤ n ∧ i = .int .i64 (k : Int) ∧ wr.ownsRow wz.heap.size 121 1 sv k (brow v k) ∧ Below wz.heap.size wz wr) (fun _ i _ => (n - intOf i).toNat)
    case atStart => exact ⟨0, by omega, rfl, ⟨rfl, Or.inl ⟨rfl, rfl⟩⟩, Below.refl _ _⟩
    case round =>
      obtain ⟨k, hk, rfl, hown, hbl⟩ := hrel
      have HO := Lib.hid hown
      have HBL := Lib.hid hbl
      have hq6 := iv1 (below_look hbl hp6)
      have HJ := Lib.hid (j3.below hbl)
      clear hown hbl
      by_cases hlt : k < n
      · go_upto_region 6 with (fail)
        apply wp_region_lit
        refine wl_k rfl (fun K hK => ?_); go_simp; refine hK _ ?_; clear hK K
        refine wl_k rfl (fun K hK => ?_); go_simp; refine hK _ ?_; clear hK K
        ((with_reducible apply wl_oneG); exact rfl; exact rfl; exact one82 hq6)
        refine wl_k rfl (fun K hK => ?_); go_simp; refine hK _ ?_; clear hK K
        refine wl_ck rfl (fun K hK => ?_); go_simp; refine ⟨_, _, ⟨rfl, rfl⟩, hK _ _ ⟨_, bit_any A6 (nl (v : Int).natAbs) c6 (v : Int).natAbs k _ HJ.out.2 (nl_spec _) (by have := NV.out; rw [Int.natAbs_natCast]; omega) (by omega), ?_⟩⟩; clear hK K; rintro e wb ⟨rfl, rfl⟩; refine ⟨_, rfl, ?_⟩; simp only [put_lit, List.set_cons_zero, List.set_cons_succ]
        refine wl_pushG (z := ((bt v k : Nat) : Int)) (k := k) (by rw [Int.natAbs_natCast]; rfl) HO.out HBL.out (by omega) (brow_succ v k) (fun _ => rfl) (fun _ => rfl) ?_
        intro v' w2 hown2 hb2
        clear HO HBL
        have HO := Lib.hid hown2
        have HBL := Lib.hid hb2
        clear hown2 hb2
        simp only [put_lit, List.set_cons_zero, List.set_cons_succ]
        go_wp2_with fail
        go_roundw
        case rel => exact ⟨k + 1, by omega, by go_num, HO.out, HBL.out⟩
        case measure => simp [intOf]; omega
      · obtain rfl : k = n := by omega
        go_wp2_with fail
        go_ret
        exact ⟨_, rfl, own_low HO.out hb.size, hb.trans (HBL.out.mono hb.size)⟩
  clear hK
  replace ix := ix.below (Below.refl _ _).drew
  replace hb := hb.drew
  refine wp_region_held_drew (S := Kept [] W) mixed (Kept.drew [] W) (fun hS => ?_)
  refine ha_val (i := 0) rfl (by kernel_rfl) (by kernel_rfl) (by kernel_rfl) (fun _ _ _ h => h) hS rfl (fun w' hw' => ex_row rfl (rowIv (hw'.look h0 (by simp <;> omega)))) ?_
  refine ha_k (i := 1) rfl (by kernel_rfl) (by kernel_rfl) (by kernel_rfl) (fun _ _ _ _ h => h) hS rfl (fun K hK => ?_); go_simp; refine hK _ ?_; clear hK K; try simp only [put_lit, List.set_cons_zero, List.set_cons_succ]
  refine ha_three (i := 2) (j := 7) (k := 8) (by kernel_rfl) ?_ ?_ ?_
  · refine sh_call (i := 2) rfl rfl (fun K hK => ?_); go_simp; refine ⟨_, _, ⟨rfl, rfl⟩, hK _ _ ⟨_, PowerT_any (n : Int) (by omega) (by omega) _, ?_⟩⟩; clear hK K; rintro e w20 ⟨B1, d1, rfl, j1, hb1⟩; refine ⟨_, rfl, hS.below hb1, ?_⟩; replace hS := hS.below hb1; replace h0 := below_look hb1 h0; replace ix := ix.below hb1; replace hb := hb.trans (hb1.mono hb.size); clear hb1; try simp only [put_lit, List.set_cons_zero, List.set_cons_succ]
    refine ha_three (i := 3) (j := 7) (k := 8) (by kernel_rfl) ?_ ?_ ?_
    · refine sh_call (i := 3) rfl rfl (fun K hK => ?_); go_simp; refine ⟨_, _, ⟨rfl, rfl⟩, hK _ _ ⟨_, FloorI_any x (t2 (n : Int)) _ _ _ _ _ ix j1 (by omega) (by have := nl_t2 (x := (n : Int)) (by omega); omega) (t2_pos n), ?_⟩⟩; clear hK K; rintro e w21 ⟨B2, d2, B3, d3, rfl, j2, j3, hb1⟩; refine ⟨_, rfl, hS.below hb1, ?_⟩; replace hS := hS.below hb1; replace h0 := below_look hb1 h0; replace ix := ix.below hb1; replace hb := hb.trans (hb1.mono hb.size); clear hb1; rw [← HV.out] at j3 ⊢; try simp only [put_lit, List.set_cons_zero, List.set_cons_succ]
      refine ha_k (i := 4) rfl (by kernel_rfl) (by kernel_rfl) (by kernel_rfl) (fun _ _ _ _ h => h) hS rfl (fun K hK => ?_); go_simp; refine hK _ ?_; clear hK K; try simp only [put_lit, List.set_cons_zero, List.set_cons_succ]
      refine ha_k (i := 5) rfl (by kernel_rfl) (by kernel_rfl) (by kernel_rfl) (fun _ _ _ _ h => h) hS rfl (fun K hK => ?_); go_simp; refine hK _ ?_; clear hK K; try simp only [put_lit, List.set_cons_zero, List.set_cons_succ]
      refine ha_k (i := 6) rfl (by kernel_rfl) (by kernel_rfl) (by kernel_rfl) (fun _ _ _ _ h => h) hS rfl (fun K hK => ?_); go_simp; refine hK _ ?_; clear hK K; try simp only [put_lit, List.set_cons_zero, List.set_cons_succ]
      refine ha_two (i := 7) (j := 8) (by kernel_rfl) ?_ ?_
      · refine sh_mk (i := 7) rfl rfl (fun ev w' => ex_alloc84i rfl ev w') hS (fun w22 p5 hb1 hLp5 hlp5 hp5 hS => ?_); replace h0 := below_look hb1 h0; replace ix := ix.below hb1; replace j2 := j2.below hb1; replace j3 := j3.below hb1; replace hb := hb.trans (hb1.mono hb.size); clear hb1; try simp only [put_lit, List.set_cons_zero, List.set_cons_succ]
        have ltp5p6 := heap_lt hp5
        refine ha_mk (i := 8) (by kernel_rfl) rfl rfl (fun ev w' => ex_alloc84i rfl ev w') hS (fun w23 p6 hb1 hLp6 hlp6 hp6 hS => ?_); replace h0 := below_look hb1 h0; replace hp5 := below_look hb1 hp5; replace ix := ix.below hb1; replace j2 := j2.below hb1; replace j3 := j3.below hb1; replace hb := hb.trans (hb1.mono hb.size); clear hb1; try simp only [put_lit, List.set_cons_zero, List.set_cons_succ]
        refine ha_store (i := 9) (by kernel_rfl) rfl rfl 84 _ _ rfl _ (iv (x / t2 (n : Int)) B2 d2) rfl rfl 84 _ hp5 info84 rfl (iv_one _ _ _) (hS.setNew (by omega) _) (fun hS => ?_); try simp only [put_lit, List.set_cons_zero, List.set_cons_succ]
        replace hb := below_setRow hb (g := p5) (by omega) (iv (x / t2 (n : Int)) B2 d2); replace h0 := hr_old (g := p5) (cs := iv (x / t2 (n : Int)) B2 d2) h0 (by omega); replace hp6 := hr_old (g := p5) (cs := iv (x / t2 (n : Int)) B2 d2) hp6 (by omega); replace ix := ix.put hp5 (iv (x / t2 (n : Int)) B2 d2); replace j2 := j2.put hp5 (iv (x / t2 (n : Int)) B2 d2); replace j3 := j3.put hp5 (iv (x / t2 (n : Int)) B2 d2); replace hp5 := hr_new (cs := iv (x / t2 (n : Int)) B2 d2) hp5
        refine ha_store (i := 10) (by kernel_rfl) rfl rfl 84 _ _ rfl _ (iv (v : Int) B3 d3) rfl rfl 84 _ hp6 info84 rfl (iv_one _ _ _) (hS.setNew (by omega) _) (fun hS => ?_); try simp only [put_lit, List.set_cons_zero, List.set_cons_succ]
        refine wpAnyH_done (by kernel_rfl) ?_ _
        replace hb := below_setRow hb (g := p6) (by omega) (iv (v : Int) B3 d3); replace h0 := hr_old (g := p6) (cs := iv (v : Int) B3 d3) h0 (by omega); replace hp5 := hr_old (g := p6) (cs := iv (v : Int) B3 d3) hp5 (by omega); replace ix := ix.put hp6 (iv (v : Int) B3 d3); replace j2 := j2.put hp6 (iv (v : Int) B3 d3); replace j3 := j3.put hp6 (iv (v : Int) B3 d3); replace hp6 := hr_new (cs := iv (v : Int) B3 d3) hp6
        exact tail p5 p6 _ _ _ _ _ _ _ _ _ _ _ _ _ _ _ _ _ _ _ _ _ _ _ _ _ _ (by omega) hp6 j3 hb
      · refine sh_mk (i := 8) rfl rfl (fun ev w' => ex_alloc84i rfl ev w') hS (fun w22 p6 hb1 hLp6 hlp6 hp6 hS => ?_); replace h0 := below_look hb1 h0; replace ix := ix.below hb1; replace j2 := j2.below hb1; replace j3 := j3.below hb1; replace hb := hb.trans (hb1.mono hb.size); clear hb1; try simp only [put_lit, List.set_cons_zero, List.set_cons_succ]
        have ltp6p5 := heap_lt hp6
        refine ha_mk (i := 7) (by kernel_rfl) rfl rfl (fun ev w' => ex_alloc84i rfl ev w') hS (fun w23 p5 hb1 hLp5 hlp5 hp5 hS => ?_); replace h0 := below_look hb1 h0; replace hp6 := below_look hb1 hp6; replace ix := ix.below hb1; replace j2 := j2.below hb1; replace j3 := j3.below hb1; replace hb := hb.trans (hb1.mono hb.size); clear hb1; try simp only [put_lit, List.set_cons_zero, List.set_cons_succ]
        refine ha_store (i := 9) (by kernel_rfl) rfl rfl 84 _ _ rfl _ (iv (x / t2 (n : Int)) B2 d2) rfl rfl 84 _ hp5 info84 rfl (iv_one _ _ _) (hS.setNew (by omega) _) (fun hS => ?_); try simp only [put_lit, List.set_cons_zero, List.set_cons_succ]
        replace hb := below_setRow hb (g := p5) (by omega) (iv (x / t2 (n : Int)) B2 d2); replace h0 := hr_old (g := p5) (cs := iv (x / t2 (n : Int)) B2 d2) h0 (by omega); replace hp6 := hr_old (g := p5) (cs := iv (x / t2 (n : Int)) B2 d2) hp6 (by omega); replace ix := ix.put hp5 (iv (x / t2 (n : Int)) B2 d2); replace j2 := j2.put hp5 (iv (x / t2 (n : Int)) B2 d2); replace j3 := j3.put hp5 (iv (x / t2 (n : Int)) B2 d2); replace hp5 := hr_new (cs := iv (x / t2 (n : Int)) B2 d2) hp5
        refine ha_store (i := 10) (by kernel_rfl) rfl rfl 84 _ _ rfl _ (iv (v : Int) B3 d3) rfl rfl 84 _ hp6 info84 rfl (iv_one _ _ _) (hS.setNew (by omega) _) (fun hS => ?_); try simp only [put_lit, List.set_cons_zero, List.set_cons_succ]
        refine wpAnyH_done (by kernel_rfl) ?_ _
        replace hb := below_setRow hb (g := p6) (by omega) (iv (v : Int) B3 d3); replace h0 := hr_old (g := p6) (cs := iv (v : Int) B3 d3) h0 (by omega); replace hp5 := hr_old (g := p6) (cs := iv (v : Int) B3 d3) hp5 (by omega); replace ix := ix.put hp6 (iv (v : Int) B3 d3); replace j2 := j2.put hp6 (iv (v : Int) B3 d3); replace j3 := j3.put hp6 (iv (v : Int) B3 d3); replace hp6 := hr_new (cs := iv (v : Int) B3 d3) hp6
        exact tail p5 p6 _ _ _ _ _ _ _ _ _ _ _ _ _ _ _ _ _ _ _ _ _ _ _ _ _ _ (by omega) hp6 j3 hb
    · refine sh_mk (i := 7) rfl rfl (fun ev w' => ex_alloc84i rfl ev w') hS (fun w21 p5 hb1 hLp5 hlp5 hp5 hS => ?_); replace h0 := below_look hb1 h0; replace ix := ix.below hb1; replace j1 := j1.below hb1; replace hb := hb.trans (hb1.mono hb.size); clear hb1; try simp only [put_lit, List.set_cons_zero, List.set_cons_succ]
      refine ha_two (i := 3) (j := 8) (by kernel_rfl) ?_ ?_
      · refine sh_call (i := 3) rfl rfl (fun K hK => ?_); go_simp; refine ⟨_, _, ⟨rfl, rfl⟩, hK _ _ ⟨_, FloorI_any x (t2 (n : Int)) _ _ _ _ _ ix j1 (by omega) (by have := nl_t2 (x := (n : Int)) (by omega); omega) (t2_pos n), ?_⟩⟩; clear hK K; rintro e w22 ⟨B2, d2, B3, d3, rfl, j2, j3, hb1⟩; refine ⟨_, rfl, hS.below hb1, ?_⟩; replace hS := hS.below hb1; replace h0 := below_look hb1 h0; replace hp5 := below_look hb1 hp5; replace ix := ix.below hb1; replace hb := hb.trans (hb1.mono hb.size); clear hb1; rw [← HV.out] at j3 ⊢; try simp only [put_lit, List.set_cons_zero, List.set_cons_succ]
        refine ha_k (i := 4) rfl (by kernel_rfl) (by kernel_rfl) (by kernel_rfl) (fun _ _ _ _ h => h) hS rfl (fun K hK => ?_); go_simp; refine hK _ ?_; clear hK K; try simp only [put_lit, List.set_cons_zero, List.set_cons_succ]
        refine ha_k (i := 5) rfl (by kernel_rfl) (by kernel_rfl) (by kernel_rfl) (fun _ _ _ _ h => h) hS rfl (fun K hK => ?_); go_simp; refine hK _ ?_; clear hK K; try simp only [put_lit, List.set_cons_zero, List.set_cons_succ]
        refine ha_k (i := 6) rfl (by kernel_rfl) (by kernel_rfl) (by kernel_rfl) (fun _ _ _ _ h => h) hS rfl (fun K hK => ?_); go_simp; refine hK _ ?_; clear hK K; try simp only [put_lit, List.set_cons_zero, List.set_cons_succ]
        have ltp5p6 := heap_lt hp5
        refine ha_mk (i := 8) (by kernel_rfl) rfl rfl (fun ev w' => ex_alloc84i rfl ev w') hS (fun w23 p6 hb1 hLp6 hlp6 hp6 hS => ?_); replace h0 := below_look hb1 h0; replace hp5 := below_look hb1 hp5; replace ix := ix.below hb1; replace j2 := j2.below hb1; replace j3 := j3.below hb1; replace hb := hb.trans (hb1.mono hb.size); clear hb1; try simp only [put_lit, List.set_cons_zero, List.set_cons_succ]
        refine ha_store (i := 9) (by kernel_rfl) rfl rfl 84 _ _ rfl _ (iv (x / t2 (n : Int)) B2 d2) rfl rfl 84 _ hp5 info84 rfl (iv_one _ _ _) (hS.setNew (by omega) _) (fun hS => ?_); try simp only [put_lit, List.set_cons_zero, List.set_cons_succ]
        replace hb := below_setRow hb (g := p5) (by omega) (iv (x / t2 (n : Int)) B2 d2); replace h0 := hr_old (g := p5) (cs := iv (x / t2 (n : Int)) B2 d2) h0 (by omega); replace hp6 := hr_old (g := p5) (cs := iv (x / t2 (n : Int)) B2 d2) hp6 (by omega); replace ix := ix.put hp5 (iv (x / t2 (n : Int)) B2 d2); replace j2 := j2.put hp5 (iv (x / t2 (n : Int)) B2 d2); replace j3 := j3.put hp5 (iv (x / t2 (n : Int)) B2 d2); replace hp5 := hr_new (cs := iv (x / t2 (n : Int)) B2 d2) hp5
        refine ha_store (i := 10) (by kernel_rfl) rfl rfl 84 _ _ rfl _ (iv (v : Int) B3 d3) rfl rfl 84 _ hp6 info84 rfl (iv_one _ _ _) (hS.setNew (by omega) _) (fun hS => ?_); try simp only [put_lit, List.set_cons_zero, List.set_cons_succ]
        refine wpAnyH_done (by kernel_rfl) ?_ _
        replace hb := below_setRow hb (g := p6) (by omega) (iv (v : Int) B3 d3); replace h0 := hr_old (g := p6) (cs := iv (v : Int) B3 d3) h0 (by omega); replace hp5 := hr_old (g := p6) (cs := iv (v : Int) B3 d3) hp5 (by omega); replace ix := ix.put hp6 (iv (v : Int) B3 d3); replace j2 := j2.put hp6 (iv (v : Int) B3 d3); replace j3 := j3.put hp6 (iv (v : Int) B3 d3); replace hp6 := hr_new (cs := iv (v : Int) B3 d3) hp6
        exact tail p5 p6 _ _ _ _ _ _ _ _ _ _ _ _ _ _ _ _ _ _ _ _ _ _ _ _ _ _ (by omega) hp6 j3 hb
      · have ltp5p6 := heap_lt hp5
        refine sh_mk (i := 8) rfl rfl (fun ev w' => ex_alloc84i rfl ev w') hS (fun w22 p6 hb1 hLp6 hlp6 hp6 hS => ?_); replace h0 := below_look hb1 h0; replace hp5 := below_look hb1 hp5; replace ix := ix.below hb1; replace j1 := j1.below hb1; replace hb := hb.trans (hb1.mono hb.size); clear hb1; try simp only [put_lit, List.set_cons_zero, List.set_cons_succ]
        refine ha_call (i := 3) (by kernel_rfl) rfl rfl (fun K hK => ?_); go_simp; refine ⟨_, _, ⟨rfl, rfl⟩, hK _ _ ⟨_, FloorI_any x (t2 (n : Int)) _ _ _ _ _ ix j1 (by omega) (by have := nl_t2 (x := (n : Int)) (by omega); omega) (t2_pos n), ?_⟩⟩; clear hK K; rintro e w23 ⟨B2, d2, B3, d3, rfl, j2, j3, hb1⟩; refine ⟨_, rfl, hS.below hb1, ?_⟩; replace hS := hS.below hb1; replace h0 := below_look hb1 h0; replace hp5 := below_look hb1 hp5; replace hp6 := below_look hb1 hp6; replace ix := ix.below hb1; replace hb := hb.trans (hb1.mono hb.size); clear hb1; rw [← HV.out] at j3 ⊢; try simp only [put_lit, List.set_cons_zero, List.set_cons_succ]
        refine ha_k (i := 4) rfl (by kernel_rfl) (by kernel_rfl) (by kernel_rfl) (fun _ _ _ _ h => h) hS rfl (fun K hK => ?_); go_simp; refine hK _ ?_; clear hK K; try simp only [put_lit, List.set_cons_zero, List.set_cons_succ]
        refine ha_k (i := 5) rfl (by kernel_rfl) (by kernel_rfl) (by kernel_rfl) (fun _ _ _ _ h => h) hS rfl (fun K hK => ?_); go_simp; refine hK _ ?_; clear hK K; try simp only [put_lit, List.set_cons_zero, List.set_cons_succ]
        refine ha_k (i := 6) rfl (by kernel_rfl) (by kernel_rfl) (by kernel_rfl) (fun _ _ _ _ h => h) hS rfl (fun K hK => ?_); go_simp; refine hK _ ?_; clear hK K; try simp only [put_lit, List.set_cons_zero, List.set_cons_succ]
        refine ha_store (i := 9) (by kernel_rfl) rfl rfl 84 _ _ rfl _ (iv (x / t2 (n : Int)) B2 d2) rfl rfl 84 _ hp5 info84 rfl (iv_one _ _ _) (hS.setNew (by omega) _) (fun hS => ?_); try simp only [put_lit, List.set_cons_zero, List.set_cons_succ]
        replace hb := below_setRow hb (g := p5) (by omega) (iv (x / t2 (n : Int)) B2 d2); replace h0 := hr_old (g := p5) (cs := iv (x / t2 (n : Int)) B2 d2) h0 (by omega); replace hp6 := hr_old (g := p5) (cs := iv (x / t2 (n : Int)) B2 d2) hp6 (by omega); replace ix := ix.put hp5 (iv (x / t2 (n : Int)) B2 d2); replace j2 := j2.put hp5 (iv (x / t2 (n : Int)) B2 d2); replace j3 := j3.put hp5 (iv (x / t2 (n : Int)) B2 d2); replace hp5 := hr_new (cs := iv (x / t2 (n : Int)) B2 d2) hp5
        refine ha_store (i := 10) (by kernel_rfl) rfl rfl 84 _ _ rfl _ (iv (v : Int) B3 d3) rfl rfl 84 _ hp6 info84 rfl (iv_one _ _ _) (hS.setNew (by omega) _) (fun hS => ?_); try simp only [put_lit, List.set_cons_zero, List.set_cons_succ]
        refine wpAnyH_done (by kernel_rfl) ?_ _
        replace hb := below_setRow hb (g := p6) (by omega) (iv (v : Int) B3 d3); replace h0 := hr_old (g := p6) (cs := iv (v : Int) B3 d3) h0 (by omega); replace hp5 := hr_old (g := p6) (cs := iv (v : Int) B3 d3) hp5 (by omega); replace ix := ix.put hp6 (iv (v : Int) B3 d3); replace j2 := j2.put hp6 (iv (v : Int) B3 d3); replace j3 := j3.put hp6 (iv (v : Int) B3 d3); replace hp6 := hr_new (cs := iv (v : Int) B3 d3) hp6
        exact tail p5 p6 _ _ _ _ _ _ _ _ _ _ _ _ _ _ _ _ _ _ _ _ _ _ _ _ _ _ (by omega) hp6 j3 hb
    · refine sh_mk (i := 8) rfl rfl (fun ev w' => ex_alloc84i rfl ev w') hS (fun w21 p6 hb1 hLp6 hlp6 hp6 hS => ?_); replace h0 := below_look hb1 h0; replace ix := ix.below hb1; replace j1 := j1.below hb1; replace hb := hb.trans (hb1.mono hb.size); clear hb1; try simp only [put_lit, List.set_cons_zero, List.set_cons_succ]
      refine ha_two (i := 3) (j := 7) (by kernel_rfl) ?_ ?_
      · refine sh_call (i := 3) rfl rfl (fun K hK => ?_); go_simp; refine ⟨_, _, ⟨rfl, rfl⟩, hK _ _ ⟨_, FloorI_any x (t2 (n : Int)) _ _ _ _ _ ix j1 (by omega) (by have := nl_t2 (x := (n : Int)) (by omega); omega) (t2_pos n), ?_⟩⟩; clear hK K; rintro e w22 ⟨B2, d2, B3, d3, rfl, j2, j3, hb1⟩; refine ⟨_, rfl, hS.below hb1, ?_⟩; replace hS := hS.below hb1; replace h0 := below_look hb1 h0; replace hp6 := below_look hb1 hp6; replace ix := ix.below hb1; replace hb := hb.trans (hb1.mono hb.size); clear hb1; rw [← HV.out] at j3 ⊢; try simp only [put_lit, List.set_cons_zero, List.set_cons_succ]
        refine ha_k (i := 4) rfl (by kernel_rfl) (by kernel_rfl) (by kernel_rfl) (fun _ _ _ _ h => h) hS rfl (fun K hK => ?_); go_simp; refine hK _ ?_; clear hK K; try simp only [put_lit, List.set_cons_zero, List.set_cons_succ]
        refine ha_k (i := 5) rfl (by kernel_rfl) (by kernel_rfl) (by kernel_rfl) (fun _ _ _ _ h => h) hS rfl (fun K hK => ?_); go_simp; refine hK _ ?_; clear hK K; try simp only [put_lit, List.set_cons_zero, List.set_cons_succ]
        refine ha_k (i := 6) rfl (by kernel_rfl) (by kernel_rfl) (by kernel_rfl) (fun _ _ _ _ h => h) hS rfl (fun K hK => ?_); go_simp; refine hK _ ?_; clear hK K; try simp only [put_lit, List.set_cons_zero, List.set_cons_succ]
        have ltp6p5 := heap_lt hp6
        refine ha_mk (i := 7) (by kernel_rfl) rfl rfl (fun ev w' => ex_alloc84i rfl ev w') hS (fun w23 p5 hb1 hLp5 hlp5 hp5 hS => ?_); replace h0 := below_look hb1 h0; replace hp6 := below_look hb1 hp6; replace ix := ix.below hb1; replace j2 := j2.below hb1; replace j3 := j3.below hb1; replace hb := hb.trans (hb1.mono hb.size); clear hb1; try simp only [put_lit, List.set_cons_zero, List.set_cons_succ]
        refine ha_store (i := 9) (by kernel_rfl) rfl rfl 84 _ _ rfl _ (iv (x / t2 (n : Int)) B2 d2) rfl rfl 84 _ hp5 info84 rfl (iv_one _ _ _) (hS.setNew (by omega) _) (fun hS => ?_); try simp only [put_lit, List.set_cons_zero, List.set_cons_succ]
        replace hb := below_setRow hb (g := p5) (by omega) (iv (x / t2 (n : Int)) B2 d2); replace h0 := hr_old (g := p5) (cs := iv (x / t2 (n : Int)) B2 d2) h0 (by omega); replace hp6 := hr_old (g := p5) (cs := iv (x / t2 (n : Int)) B2 d2) hp6 (by omega); replace ix := ix.put hp5 (iv (x / t2 (n : Int)) B2 d2); replace j2 := j2.put hp5 (iv (x / t2 (n : Int)) B2 d2); replace j3 := j3.put hp5 (iv (x / t2 (n : Int)) B2 d2); replace hp5 := hr_new (cs := iv (x / t2 (n : Int)) B2 d2) hp5
        refine ha_store (i := 10) (by kernel_rfl) rfl rfl 84 _ _ rfl _ (iv (v : Int) B3 d3) rfl rfl 84 _ hp6 info84 rfl (iv_one _ _ _) (hS.setNew (by omega) _) (fun hS => ?_); try simp only [put_lit, List.set_cons_zero, List.set_cons_succ]
        refine wpAnyH_done (by kernel_rfl) ?_ _
        replace hb := below_setRow hb (g := p6) (by omega) (iv (v : Int) B3 d3); replace h0 := hr_old (g := p6) (cs := iv (v : Int) B3 d3) h0 (by omega); replace hp5 := hr_old (g := p6) (cs := iv (v : Int) B3 d3) hp5 (by omega); replace ix := ix.put hp6 (iv (v : Int) B3 d3); replace j2 := j2.put hp6 (iv (v : Int) B3 d3); replace j3 := j3.put hp6 (iv (v : Int) B3 d3); replace hp6 := hr_new (cs := iv (v : Int) B3 d3) hp6
        exact tail p5 p6 _ _ _ _ _ _ _ _ _ _ _ _ _ _ _ _ _ _ _ _ _ _ _ _ _ _ (by omega) hp6 j3 hb
      · have ltp6p5 := heap_lt hp6
        refine sh_mk (i := 7) rfl rfl (fun ev w' => ex_alloc84i rfl ev w') hS (fun w22 p5 hb1 hLp5 hlp5 hp5 hS => ?_); replace h0 := below_look hb1 h0; replace hp6 := below_look hb1 hp6; replace ix := ix.below hb1; replace j1 := j1.below hb1; replace hb := hb.trans (hb1.mono hb.size); clear hb1; try simp only [put_lit, List.set_cons_zero, List.set_cons_succ]
        refine ha_call (i := 3) (by kernel_rfl) rfl rfl (fun K hK => ?_); go_simp; refine ⟨_, _, ⟨rfl, rfl⟩, hK _ _ ⟨_, FloorI_any x (t2 (n : Int)) _ _ _ _ _ ix j1 (by omega) (by have := nl_t2 (x := (n : Int)) (by omega); omega) (t2_pos n), ?_⟩⟩; clear hK K; rintro e w23 ⟨B2, d2, B3, d3, rfl, j2, j3, hb1⟩; refine ⟨_, rfl, hS.below hb1, ?_⟩; replace hS := hS.below hb1; replace h0 := below_look hb1 h0; replace hp6 := below_look hb1 hp6; replace hp5 := below_look hb1 hp5; replace ix := ix.below hb1; replace hb := hb.trans (hb1.mono hb.size); clear hb1; rw [← HV.out] at j3 ⊢; try simp only [put_lit, List.set_cons_zero, List.set_cons_succ]
        refine ha_k (i := 4) rfl (by kernel_rfl) (by kernel_rfl) (by kernel_rfl) (fun _ _ _ _ h => h) hS rfl (fun K hK => ?_); go_simp; refine hK _ ?_; clear hK K; try simp only [put_lit, List.set_cons_zero, List.set_cons_succ]
        refine ha_k (i := 5) rfl (by kernel_rfl) (by kernel_rfl) (by kernel_rfl) (fun _ _ _ _ h => h) hS rfl (fun K hK => ?_); go_simp; refine hK _ ?_; clear hK K; try simp only [put_lit, List.set_cons_zero, List.set_cons_succ]
        refine ha_k (i := 6) rfl (by kernel_rfl) (by kernel_rfl) (by kernel_rfl) (fun _ _ _ _ h => h) hS rfl (fun K hK => ?_); go_simp; refine hK _ ?_; clear hK K; try simp only [put_lit, List.set_cons_zero, List.set_cons_succ]
        refine ha_store (i := 9) (by kernel_rfl) rfl rfl 84 _ _ rfl _ (iv (x / t2 (n : Int)) B2 d2) rfl rfl 84 _ hp5 info84 rfl (iv_one _ _ _) (hS.setNew (by omega) _) (fun hS => ?_); try simp only [put_lit, List.set_cons_zero, List.set_cons_succ]
        replace hb := below_setRow hb (g := p5) (by omega) (iv (x / t2 (n : Int)) B2 d2); replace h0 := hr_old (g := p5) (cs := iv (x / t2 (n : Int)) B2 d2) h0 (by omega); replace hp6 := hr_old (g := p5) (cs := iv (x / t2 (n : Int)) B2 d2) hp6 (by omega); replace ix := ix.put hp5 (iv (x / t2 (n : Int)) B2 d2); replace j2 := j2.put hp5 (iv (x / t2 (n : Int)) B2 d2); replace j3 := j3.put hp5 (iv (x / t2 (n : Int)) B2 d2); replace hp5 := hr_new (cs := iv (x / t2 (n : Int)) B2 d2) hp5
        refine ha_store (i := 10) (by kernel_rfl) rfl rfl 84 _ _ rfl _ (iv (v : Int) B3 d3) rfl rfl 84 _ hp6 info84 rfl (iv_one _ _ _) (hS.setNew (by omega) _) (fun hS => ?_); try simp only [put_lit, List.set_cons_zero, List.set_cons_succ]
        refine wpAnyH_done (by kernel_rfl) ?_ _
        replace hb := below_setRow hb (g := p6) (by omega) (iv (v : Int) B3 d3); replace h0 := hr_old (g := p6) (cs := iv (v : Int) B3 d3) h0 (by omega); replace hp5 := hr_old (g := p6) (cs := iv (v : Int) B3 d3) hp5 (by omega); replace ix := ix.put hp6 (iv (v : Int) B3 d3); replace j2 := j2.put hp6 (iv (v : Int) B3 d3); replace j3 := j3.put hp6 (iv (v : Int) B3 d3); replace hp6 := hr_new (cs := iv (v : Int) B3 d3) hp6
        exact tail p5 p6 _ _ _ _ _ _ _ _ _ _ _ _ _ _ _ _ _ _ _ _ _ _ _ _ _ _ (by omega) hp6 j3 hb
  · refine sh_mk (i := 7) rfl rfl (fun ev w' => ex_alloc84i rfl ev w') hS (fun w20 p5 hb1 hLp5 hlp5 hp5 hS => ?_); replace h0 := below_look hb1 h0; replace ix := ix.below hb1; replace hb := hb.trans (hb1.mono hb.size); clear hb1; try simp only [put_lit, List.set_cons_zero, List.set_cons_succ]
    refine ha_two (i := 2) (j := 8) (by kernel_rfl) ?_ ?_
    · refine sh_call (i := 2) rfl rfl (fun K hK => ?_); go_simp; refine ⟨_, _, ⟨rfl, rfl⟩, hK _ _ ⟨_, PowerT_any (n : Int) (by omega) (by omega) _, ?_⟩⟩; clear hK K; rintro e w21 ⟨B1, d1, rfl, j1, hb1⟩; refine ⟨_, rfl, hS.below hb1, ?_⟩; replace hS := hS.below hb1; replace h0 := below_look hb1 h0; replace hp5 := below_look hb1 hp5; replace ix := ix.below hb1; replace hb := hb.trans (hb1.mono hb.size); clear hb1; try simp only [put_lit, List.set_cons_zero, List.set_cons_succ]
      refine ha_two (i := 3) (j := 8) (by kernel_rfl) ?_ ?_
      · refine sh_call (i := 3) rfl rfl (fun K hK => ?_); go_simp; refine ⟨_, _, ⟨rfl, rfl⟩, hK _ _ ⟨_, FloorI_any x (t2 (n : Int)) _ _ _ _ _ ix j1 (by omega) (by have := nl_t2 (x := (n : Int)) (by omega); omega) (t2_pos n), ?_⟩⟩; clear hK K; rintro e w22 ⟨B2, d2, B3, d3, rfl, j2, j3, hb1⟩; refine ⟨_, rfl, hS.below hb1, ?_⟩; replace hS := hS.below hb1; replace h0 := below_look hb1 h0; replace hp5 := below_look hb1 hp5; replace ix := ix.below hb1; replace hb := hb.trans (hb1.mono hb.size); clear hb1; rw [← HV.out] at j3 ⊢; try simp only [put_lit, List.set_cons_zero, List.set_cons_succ]
        refine ha_k (i := 4) rfl (by kernel_rfl) (by kernel_rfl) (by kernel_rfl) (fun _ _ _ _ h => h) hS rfl (fun K hK => ?_); go_simp; refine hK _ ?_; clear hK K; try simp only [put_lit, List.set_cons_zero, List.set_cons_succ]
        refine ha_k (i := 5) rfl (by kernel_rfl) (by kernel_rfl) (by kernel_rfl) (fun _ _ _ _ h => h) hS rfl (fun K hK => ?_); go_simp; refine hK _ ?_; clear hK K; try simp only [put_lit, List.set_cons_zero, List.set_cons_succ]
        refine ha_k (i := 6) rfl (by kernel_rfl) (by kernel_rfl) (by kernel_rfl) (fun _ _ _ _ h => h) hS rfl (fun K hK => ?_); go_simp; refine hK _ ?_; clear hK K; try simp only [put_lit, List.set_cons_zero, List.set_cons_succ]
        have ltp5p6 := heap_lt hp5
        refine ha_mk (i := 8) (by kernel_rfl) rfl rfl (fun ev w' => ex_alloc84i rfl ev w') hS (fun w23 p6 hb1 hLp6 hlp6 hp6 hS => ?_); replace h0 := below_look hb1 h0; replace hp5 := below_look hb1 hp5; replace ix := ix.below hb1; replace j2 := j2.below hb1; replace j3 := j3.below hb1; replace hb := hb.trans (hb1.mono hb.size); clear hb1; try simp only [put_lit, List.set_cons_zero, List.set_cons_succ]
        refine ha_store (i := 9) (by kernel_rfl) rfl rfl 84 _ _ rfl _ (iv (x / t2 (n : Int)) B2 d2) rfl rfl 84 _ hp5 info84 rfl (iv_one _ _ _) (hS.setNew (by omega) _) (fun hS => ?_); try simp only [put_lit, List.set_cons_zero, List.set_cons_succ]
        replace hb := below_setRow hb (g := p5) (by omega) (iv (x / t2 (n : Int)) B2 d2); replace h0 := hr_old (g := p5) (cs := iv (x / t2 (n : Int)) B2 d2) h0 (by omega); replace hp6 := hr_old (g := p5) (cs := iv (x / t2 (n : Int)) B2 d2) hp6 (by omega); replace ix := ix.put hp5 (iv (x / t2 (n : Int)) B2 d2); replace j2 := j2.put hp5 (iv (x / t2 (n : Int)) B2 d2); replace j3 := j3.put hp5 (iv (x / t2 (n : Int)) B2 d2); replace hp5 := hr_new (cs := iv (x / t2 (n : Int)) B2 d2) hp5
        refine ha_store (i := 10) (by kernel_rfl) rfl rfl 84 _ _ rfl _ (iv (v : Int) B3 d3) rfl rfl 84 _ hp6 info84 rfl (iv_one _ _ _) (hS.setNew (by omega) _) (fun hS => ?_); try simp only [put_lit, List.set_cons_zero, List.set_cons_succ]
        refine wpAnyH_done (by kernel_rfl) ?_ _
        replace hb := below_setRow hb (g := p6) (by omega) (iv (v : Int) B3 d3); replace h0 := hr_old (g := p6) (cs := iv (v : Int) B3 d3) h0 (by omega); replace hp5 := hr_old (g := p6) (cs := iv (v : Int) B3 d3) hp5 (by omega); replace ix := ix.put hp6 (iv (v : Int) B3 d3); replace j2 := j2.put hp6 (iv (v : Int) B3 d3); replace j3 := j3.put hp6 (iv (v : Int) B3 d3); replace hp6 := hr_new (cs := iv (v : Int) B3 d3) hp6
        exact tail p5 p6 _ _ _ _ _ _ _ _ _ _ _ _ _ _ _ _ _ _ _ _ _ _ _ _ _ _ (by omega) hp6 j3 hb
      · have ltp5p6 := heap_lt hp5
        refine sh_mk (i := 8) rfl rfl (fun ev w' => ex_alloc84i rfl ev w') hS (fun w22 p6 hb1 hLp6 hlp6 hp6 hS => ?_); replace h0 := below_look hb1 h0; replace hp5 := below_look hb1 hp5; replace ix := ix.below hb1; replace j1 := j1.below hb1; replace hb := hb.trans (hb1.mono hb.size); clear hb1; try simp only [put_lit, List.set_cons_zero, List.set_cons_succ]
        refine ha_call (i := 3) (by kernel_rfl) rfl rfl (fun K hK => ?_); go_simp; refine ⟨_, _, ⟨rfl, rfl⟩, hK _ _ ⟨_, FloorI_any x (t2 (n : Int)) _ _ _ _ _ ix j1 (by omega) (by have := nl_t2 (x := (n : Int)) (by omega); omega) (t2_pos n), ?_⟩⟩; clear hK K; rintro e w23 ⟨B2, d2, B3, d3, rfl, j2, j3, hb1⟩; refine ⟨_, rfl, hS.below hb1, ?_⟩; replace hS := hS.below hb1; replace h0 := below_look hb1 h0; replace hp5 := below_look hb1 hp5; replace hp6 := below_look hb1 hp6; replace ix := ix.below hb1; replace hb := hb.trans (hb1.mono hb.size); clear hb1; rw [← HV.out] at j3 ⊢; try simp only [put_lit, List.set_cons_zero, List.set_cons_succ]
        refine ha_k (i := 4) rfl (by kernel_rfl) (by kernel_rfl) (by kernel_rfl) (fun _ _ _ _ h => h) hS rfl (fun K hK => ?_); go_simp; refine hK _ ?_; clear hK K; try simp only [put_lit, List.set_cons_zero, List.set_cons_succ]
        refine ha_k (i := 5) rfl (by kernel_rfl) (by kernel_rfl) (by kernel_rfl) (fun _ _ _ _ h => h) hS rfl (fun K hK => ?_); go_simp; refine hK _ ?_; clear hK K; try simp only [put_lit, List.set_cons_zero, List.set_cons_succ]
        refine ha_k (i := 6) rfl (by kernel_rfl) (by kernel_rfl) (by kernel_rfl) (fun _ _ _ _ h => h) hS rfl (fun K hK => ?_); go_simp; refine hK _ ?_; clear hK K; try simp only [put_lit, List.set_cons_zero, List.set_cons_succ]
        refine ha_store (i := 9) (by kernel_rfl) rfl rfl 84 _ _ rfl _ (iv (x / t2 (n : Int)) B2 d2) rfl rfl 84 _ hp5 info84 rfl (iv_one _ _ _) (hS.setNew (by omega) _) (fun hS => ?_); try simp only [put_lit, List.set_cons_zero, List.set_cons_succ]
        replace hb := below_setRow hb (g := p5) (by omega) (iv (x / t2 (n : Int)) B2 d2); replace h0 := hr_old (g := p5) (cs := iv (x / t2 (n : Int)) B2 d2) h0 (by omega); replace hp6 := hr_old (g := p5) (cs := iv (x / t2 (n : Int)) B2 d2) hp6 (by omega); replace ix := ix.put hp5 (iv (x / t2 (n : Int)) B2 d2); replace j2 := j2.put hp5 (iv (x / t2 (n : Int)) B2 d2); replace j3 := j3.put hp5 (iv (x / t2 (n : Int)) B2 d2); replace hp5 := hr_new (cs := iv (x / t2 (n : Int)) B2 d2) hp5
        refine ha_store (i := 10) (by kernel_rfl) rfl rfl 84 _ _ rfl _ (iv (v : Int) B3 d3) rfl rfl 84 _ hp6 info84 rfl (iv_one _ _ _) (hS.setNew (by omega) _) (fun hS => ?_); try simp only [put_lit, List.set_cons_zero, List.set_cons_succ]
        refine wpAnyH_done (by kernel_rfl) ?_ _
        replace hb := below_setRow hb (g := p6) (by omega) (iv (v : Int) B3 d3); replace h0 := hr_old (g := p6) (cs := iv (v : Int) B3 d3) h0 (by omega); replace hp5 := hr_old (g := p6) (cs := iv (v : Int) B3 d3) hp5 (by omega); replace ix := ix.put hp6 (iv (v : Int) B3 d3); replace j2 := j2.put hp6 (iv (v : Int) B3 d3); replace j3 := j3.put hp6 (iv (v : Int) B3 d3); replace hp6 := hr_new (cs := iv (v : Int) B3 d3) hp6
        exact tail p5 p6 _ _ _ _ _ _ _ _ _ _ _ _ _ _ _ _ _ _ _ _ _ _ _ _ _ _ (by omega) hp6 j3 hb
    · have ltp5p6 := heap_lt hp5
      refine sh_mk (i := 8) rfl rfl (fun ev w' => ex_alloc84i rfl ev w') hS (fun w21 p6 hb1 hLp6 hlp6 hp6 hS => ?_); replace h0 := below_look hb1 h0; replace hp5 := below_look hb1 hp5; replace ix := ix.below hb1; replace hb := hb.trans (hb1.mono hb.size); clear hb1; try simp only [put_lit, List.set_cons_zero, List.set_cons_succ]
      refine ha_call (i := 2) (by kernel_rfl) rfl rfl (fun K hK => ?_); go_simp; refine ⟨_, _, ⟨rfl, rfl⟩, hK _ _ ⟨_, PowerT_any (n : Int) (by omega) (by omega) _, ?_⟩⟩; clear hK K; rintro e w22 ⟨B1, d1, rfl, j1, hb1⟩; refine ⟨_, rfl, hS.below hb1, ?_⟩; replace hS := hS.below hb1; replace h0 := below_look hb1 h0; replace hp5 := below_look hb1 hp5; replace hp6 := below_look hb1 hp6; replace ix := ix.below hb1; replace hb := hb.trans (hb1.mono hb.size); clear hb1; try simp only [put_lit, List.set_cons_zero, List.set_cons_succ]
      refine ha_call (i := 3) (by kernel_rfl) rfl rfl (fun K hK => ?_); go_simp; refine ⟨_, _, ⟨rfl, rfl⟩, hK _ _ ⟨_, FloorI_any x (t2 (n : Int)) _ _ _ _ _ ix j1 (by omega) (by have := nl_t2 (x := (n : Int)) (by omega); omega) (t2_pos n), ?_⟩⟩; clear hK K; rintro e w23 ⟨B2, d2, B3, d3, rfl, j2, j3, hb1⟩; refine ⟨_, rfl, hS.below hb1, ?_⟩; replace hS := hS.below hb1; replace h0 := below_look hb1 h0; replace hp5 := below_look hb1 hp5; replace hp6 := below_look hb1 hp6; replace ix := ix.below hb1; replace hb := hb.trans (hb1.mono hb.size); clear hb1; rw [← HV.out] at j3 ⊢; try simp only [put_lit, List.set_cons_zero, List.set_cons_succ]
      refine ha_k (i := 4) rfl (by kernel_rfl) (by kernel_rfl) (by kernel_rfl) (fun _ _ _ _ h => h) hS rfl (fun K hK => ?_); go_simp; refine hK _ ?_; clear hK K; try simp only [put_lit, List.set_cons_zero, List.set_cons_succ]
      refine ha_k (i := 5) rfl (by kernel_rfl) (by kernel_rfl) (by kernel_rfl) (fun _ _ _ _ h => h) hS rfl (fun K hK => ?_); go_simp; refine hK _ ?_; clear hK K; try simp only [put_lit, List.set_cons_zero, List.set_cons_succ]
      refine ha_k (i := 6) rfl (by kernel_rfl) (by kernel_rfl) (by kernel_rfl) (fun _ _ _ _ h => h) hS rfl (fun K hK => ?_); go_simp; refine hK _ ?_; clear hK K; try simp only [put_lit, List.set_cons_zero, List.set_cons_succ]
      refine ha_store (i := 9) (by kernel_rfl) rfl rfl 84 _ _ rfl _ (iv (x / t2 (n : Int)) B2 d2) rfl rfl 84 _ hp5 info84 rfl (iv_one _ _ _) (hS.setNew (by omega) _) (fun hS => ?_); try simp only [put_lit, List.set_cons_zero, List.set_cons_succ]
      replace hb := below_setRow hb (g := p5) (by omega) (iv (x / t2 (n : Int)) B2 d2); replace h0 := hr_old (g := p5) (cs := iv (x / t2 (n : Int)) B2 d2) h0 (by omega); replace hp6 := hr_old (g := p5) (cs := iv (x / t2 (n : Int)) B2 d2) hp6 (by omega); replace ix := ix.put hp5 (iv (x / t2 (n : Int)) B2 d2); replace j2 := j2.put hp5 (iv (x / t2 (n : Int)) B2 d2); replace j3 := j3.put hp5 (iv (x / t2 (n : Int)) B2 d2); replace hp5 := hr_new (cs := iv (x / t2 (n : Int)) B2 d2) hp5
      refine ha_store (i := 10) (by kernel_rfl) rfl rfl 84 _ _ rfl _ (iv (v : Int) B3 d3) rfl rfl 84 _ hp6 info84 rfl (iv_one _ _ _) (hS.setNew (by omega) _) (fun hS => ?_); try simp only [put_lit, List.set_cons_zero, List.set_cons_succ]
      refine wpAnyH_done (by kernel_rfl) ?_ _
      replace hb := below_setRow hb (g := p6) (by omega) (iv (v : Int) B3 d3); replace h0 := hr_old (g := p6) (cs := iv (v : Int) B3 d3) h0 (by omega); replace hp5 := hr_old (g := p6) (cs := iv (v : Int) B3 d3) hp5 (by omega); replace ix := ix.put hp6 (iv (v : Int) B3 d3); replace j2 := j2.put hp6 (iv (v : Int) B3 d3); replace j3 := j3.put hp6 (iv (v : Int) B3 d3); replace hp6 := hr_new (cs := iv (v : Int) B3 d3) hp6
      exact tail p5 p6 _ _ _ _ _ _ _ _ _ _ _ _ _ _ _ _ _ _ _ _ _ _ _ _ _ _ (by omega) hp6 j3 hb
  · refine sh_mk (i := 8) rfl rfl (fun ev w' => ex_alloc84i rfl ev w') hS (fun w20 p6 hb1 hLp6 hlp6 hp6 hS => ?_); replace h0 := below_look hb1 h0; replace ix := ix.below hb1; replace hb := hb.trans (hb1.mono hb.size); clear hb1; try simp only [put_lit, List.set_cons_zero, List.set_cons_succ]
    refine ha_two (i := 2) (j := 7) (by kernel_rfl) ?_ ?_
    · refine sh_call (i := 2) rfl rfl (fun K hK => ?_); go_simp; refine ⟨_, _, ⟨rfl, rfl⟩, hK _ _ ⟨_, PowerT_any (n : Int) (by omega) (by omega) _, ?_⟩⟩; clear hK K; rintro e w21 ⟨B1, d1, rfl, j1, hb1⟩; refine ⟨_, rfl, hS.below hb1, ?_⟩; replace hS := hS.below hb1; replace h0 := below_look hb1 h0; replace hp6 := below_look hb1 hp6; replace ix := ix.below hb1; replace hb := hb.trans (hb1.mono hb.size); clear hb1; try simp only [put_lit, List.set_cons_zero, List.set_cons_succ]
      refine ha_two (i := 3) (j := 7) (by kernel_rfl) ?_ ?_
      · refine sh_call (i := 3) rfl rfl (fun K hK => ?_); go_simp; refine ⟨_, _, ⟨rfl, rfl⟩, hK _ _ ⟨_, FloorI_any x (t2 (n : Int)) _ _ _ _ _ ix j1 (by omega) (by have := nl_t2 (x := (n : Int)) (by omega); omega) (t2_pos n), ?_⟩⟩; clear hK K; rintro e w22 ⟨B2, d2, B3, d3, rfl, j2, j3, hb1⟩; refine ⟨_, rfl, hS.below hb1, ?_⟩; replace hS := hS.below hb1; replace h0 := below_look hb1 h0; replace hp6 := below_look hb1 hp6; replace ix := ix.below hb1; replace hb := hb.trans (hb1.mono hb.size); clear hb1; rw [← HV.out] at j3 ⊢; try simp only [put_lit, List.set_cons_zero, List.set_cons_succ]
        refine ha_k (i := 4) rfl (by kernel_rfl) (by kernel_rfl) (by kernel_rfl) (fun _ _ _ _ h => h) hS rfl (fun K hK => ?_); go_simp; refine hK _ ?_; clear hK K; try simp only [put_lit, List.set_cons_zero, List.set_cons_succ]
        refine ha_k (i := 5) rfl (by kernel_rfl) (by kernel_rfl) (by kernel_rfl) (fun _ _ _ _ h => h) hS rfl (fun K hK => ?_); go_simp; refine hK _ ?_; clear hK K; try simp only [put_lit, List.set_cons_zero, List.set_cons_succ]
        refine ha_k (i := 6) rfl (by kernel_rfl) (by kernel_rfl) (by kernel_rfl) (fun _ _ _ _ h => h) hS rfl (fun K hK => ?_); go_simp; refine hK _ ?_; clear hK K; try simp only [put_lit, List.set_cons_zero, List.set_cons_succ]
        have ltp6p5 := heap_lt hp6
        refine ha_mk (i := 7) (by kernel_rfl) rfl rfl (fun ev w' => ex_alloc84i rfl ev w') hS (fun w23 p5 hb1 hLp5 hlp5 hp5 hS => ?_); replace h0 := below_look hb1 h0; replace hp6 := below_look hb1 hp6; replace ix := ix.below hb1; replace j2 := j2.below hb1; replace j3 := j3.below hb1; replace hb := hb.trans (hb1.mono hb.size); clear hb1; try simp only [put_lit, List.set_cons_zero, List.set_cons_succ]
        refine ha_store (i := 9) (by kernel_rfl) rfl rfl 84 _ _ rfl _ (iv (x / t2 (n : Int)) B2 d2) rfl rfl 84 _ hp5 info84 rfl (iv_one _ _ _) (hS.setNew (by omega) _) (fun hS => ?_); try simp only [put_lit, List.set_cons_zero, List.set_cons_succ]
        replace hb := below_setRow hb (g := p5) (by omega) (iv (x / t2 (n : Int)) B2 d2); replace h0 := hr_old (g := p5) (cs := iv (x / t2 (n : Int)) B2 d2) h0 (by omega); replace hp6 := hr_old (g := p5) (cs := iv (x / t2 (n : Int)) B2 d2) hp6 (by omega); replace ix := ix.put hp5 (iv (x / t2 (n : Int)) B2 d2); replace j2 := j2.put hp5 (iv (x / t2 (n : Int)) B2 d2); replace j3 := j3.put hp5 (iv (x / t2 (n : Int)) B2 d2); replace hp5 := hr_new (cs := iv (x / t2 (n : Int)) B2 d2) hp5
        refine ha_store (i := 10) (by kernel_rfl) rfl rfl 84 _ _ rfl _ (iv (v : Int) B3 d3) rfl rfl 84 _ hp6 info84 rfl (iv_one _ _ _) (hS.setNew (by omega) _) (fun hS => ?_); try simp only [put_lit, List.set_cons_zero, List.set_cons_succ]
        refine wpAnyH_done (by kernel_rfl) ?_ _
        replace hb := below_setRow hb (g := p6) (by omega) (iv (v : Int) B3 d3); replace h0 := hr_old (g := p6) (cs := iv (v : Int) B3 d3) h0 (by omega); replace hp5 := hr_old (g := p6) (cs := iv (v : Int) B3 d3) hp5 (by omega); replace ix := ix.put hp6 (iv (v : Int) B3 d3); replace j2 := j2.put hp6 (iv (v : Int) B3 d3); replace j3 := j3.put hp6 (iv (v : Int) B3 d3); replace hp6 := hr_new (cs := iv (v : Int) B3 d3) hp6
        exact tail p5 p6 _ _ _ _ _ _ _ _ _ _ _ _ _ _ _ _ _ _ _ _ _ _ _ _ _ _ (by omega) hp6 j3 hb
      · have ltp6p5 := heap_lt hp6
        refine sh_mk (i := 7) rfl rfl (fun ev w' => ex_alloc84i rfl ev w') hS (fun w22 p5 hb1 hLp5 hlp5 hp5 hS => ?_); replace h0 := below_look hb1 h0; replace hp6 := below_look hb1 hp6; replace ix := ix.below hb1; replace j1 := j1.below hb1; replace hb := hb.trans (hb1.mono hb.size); clear hb1; try simp only [put_lit, List.set_cons_zero, List.set_cons_succ]
        refine ha_call (i := 3) (by kernel_rfl) rfl rfl (fun K hK => ?_); go_simp; refine ⟨_, _, ⟨rfl, rfl⟩, hK _ _ ⟨_, FloorI_any x (t2 (n : Int)) _ _ _ _ _ ix j1 (by omega) (by have := nl_t2 (x := (n : Int)) (by omega); omega) (t2_pos n), ?_⟩⟩; clear hK K; rintro e w23 ⟨B2, d2, B3, d3, rfl, j2, j3, hb1⟩; refine ⟨_, rfl, hS.below hb1, ?_⟩; replace hS := hS.below hb1; replace h0 := below_look hb1 h0; replace hp6 := below_look hb1 hp6; replace hp5 := below_look hb1 hp5; replace ix := ix.below hb1; replace hb := hb.trans (hb1.mono hb.size); clear hb1; rw [← HV.out] at j3 ⊢; try simp only [put_lit, List.set_cons_zero, List.set_cons_succ]
        refine ha_k (i := 4) rfl (by kernel_rfl) (by kernel_rfl) (by kernel_rfl) (fun _ _ _ _ h => h) hS rfl (fun K hK => ?_); go_simp; refine hK _ ?_; clear hK K; try simp only [put_lit, List.set_cons_zero, List.set_cons_succ]
        refine ha_k (i := 5) rfl (by kernel_rfl) (by kernel_rfl) (by kernel_rfl) (fun _ _ _ _ h => h) hS rfl (fun K hK => ?_); go_simp; refine hK _ ?_; clear hK K; try simp only [put_lit, List.set_cons_zero, List.set_cons_succ]
        refine ha_k (i := 6) rfl (by kernel_rfl) (by kernel_rfl) (by kernel_rfl) (fun _ _ _ _ h => h) hS rfl (fun K hK => ?_); go_simp; refine hK _ ?_; clear hK K; try simp only [put_lit, List.set_cons_zero, List.set_cons_succ]
        refine ha_store (i := 9) (by kernel_rfl) rfl rfl 84 _ _ rfl _ (iv (x / t2 (n : Int)) B2 d2) rfl rfl 84 _ hp5 info84 rfl (iv_one _ _ _) (hS.setNew (by omega) _) (fun hS => ?_); try simp only [put_lit, List.set_cons_zero, List.set_cons_succ]
        replace hb := below_setRow hb (g := p5) (by omega) (iv (x / t2 (n : Int)) B2 d2); replace h0 := hr_old (g := p5) (cs := iv (x / t2 (n : Int)) B2 d2) h0 (by omega); replace hp6 := hr_old (g := p5) (cs := iv (x / t2 (n : Int)) B2 d2) hp6 (by omega); replace ix := ix.put hp5 (iv (x / t2 (n : Int)) B2 d2); replace j2 := j2.put hp5 (iv (x / t2 (n : Int)) B2 d2); replace j3 := j3.put hp5 (iv (x / t2 (n : Int)) B2 d2); replace hp5 := hr_new (cs := iv (x / t2 (n : Int)) B2 d2) hp5
        refine ha_store (i := 10) (by kernel_rfl) rfl rfl 84 _ _ rfl _ (iv (v : Int) B3 d3) rfl rfl 84 _ hp6 info84 rfl (iv_one _ _ _) (hS.setNew (by omega) _) (fun hS => ?_); try simp only [put_lit, List.set_cons_zero, List.set_cons_succ]
        refine wpAnyH_done (by kernel_rfl) ?_ _
        replace hb := below_setRow hb (g := p6) (by omega) (iv (v : Int) B3 d3); replace h0 := hr_old (g := p6) (cs := iv (v : Int) B3 d3) h0 (by omega); replace hp5 := hr_old (g := p6) (cs := iv (v : Int) B3 d3) hp5 (by omega); replace ix := ix.put hp6 (iv (v : Int) B3 d3); replace j2 := j2.put hp6 (iv (v : Int) B3 d3); replace j3 := j3.put hp6 (iv (v : Int) B3 d3); replace hp6 := hr_new (cs := iv (v : Int) B3 d3) hp6
        exact tail p5 p6 _ _ _ _ _ _ _ _ _ _ _ _ _ _ _ _ _ _ _ _ _ _ _ _ _ _ (by omega) hp6 j3 hb
    · have ltp6p5 := heap_lt hp6
      refine sh_mk (i := 7) rfl rfl (fun ev w' => ex_alloc84i rfl ev w') hS (fun w21 p5 hb1 hLp5 hlp5 hp5 hS => ?_); replace h0 := below_look hb1 h0; replace hp6 := below_look hb1 hp6; replace ix := ix.below hb1; replace hb := hb.trans (hb1.mono hb.size); clear hb1; try simp only [put_lit, List.set_cons_zero, List.set_cons_succ]
      refine ha_call (i := 2) (by kernel_rfl) rfl rfl (fun K hK => ?_); go_simp; refine ⟨_, _, ⟨rfl, rfl⟩, hK _ _ ⟨_, PowerT_any (n : Int) (by omega) (by omega) _, ?_⟩⟩; clear hK K; rintro e w22 ⟨B1, d1, rfl, j1, hb1⟩; refine ⟨_, rfl, hS.below hb1, ?_⟩; replace hS := hS.below hb1; replace h0 := below_look hb1 h0; replace hp6 := below_look hb1 hp6; replace hp5 := below_look hb1 hp5; replace ix := ix.below hb1; replace hb := hb.trans (hb1.mono hb.size); clear hb1; try simp only [put_lit, List.set_cons_zero, List.set_cons_succ]
      refine ha_call (i := 3) (by kernel_rfl) rfl rfl (fun K hK => ?_); go_simp; refine ⟨_, _, ⟨rfl, rfl⟩, hK _ _ ⟨_, FloorI_any x (t2 (n : Int)) _ _ _ _ _ ix j1 (by omega) (by have := nl_t2 (x := (n : Int)) (by omega); omega) (t2_pos n), ?_⟩⟩; clear hK K; rintro e w23 ⟨B2, d2, B3, d3, rfl, j2, j3, hb1⟩; refine ⟨_, rfl, hS.below hb1, ?_⟩; replace hS := hS.below hb1; replace h0 := below_look hb1 h0; replace hp6 := below_look hb1 hp6; replace hp5 := below_look hb1 hp5; replace ix := ix.below hb1; replace hb := hb.trans (hb1.mono hb.size); clear hb1; rw [← HV.out] at j3 ⊢; try simp only [put_lit, List.set_cons_zero, List.set_cons_succ]
      refine ha_k (i := 4) rfl (by kernel_rfl) (by kernel_rfl) (by kernel_rfl) (fun _ _ _ _ h => h) hS rfl (fun K hK => ?_); go_simp; refine hK _ ?_; clear hK K; try simp only [put_lit, List.set_cons_zero, List.set_cons_succ]
      refine ha_k (i := 5) rfl (by kernel_rfl) (by kernel_rfl) (by kernel_rfl) (fun _ _ _ _ h => h) hS rfl (fun K hK => ?_); go_simp; refine hK _ ?_; clear hK K; try simp only [put_lit, List.set_cons_zero, List.set_cons_succ]
      refine ha_k (i := 6) rfl (by kernel_rfl) (by kernel_rfl) (by kernel_rfl) (fun _ _ _ _ h => h) hS rfl (fun K hK => ?_); go_simp; refine hK _ ?_; clear hK K; try simp only [put_lit, List.set_cons_zero, List.set_cons_succ]
      refine ha_store (i := 9) (by kernel_rfl) rfl rfl 84 _ _ rfl _ (iv (x / t2 (n : Int)) B2 d2) rfl rfl 84 _ hp5 info84 rfl (iv_one _ _ _) (hS.setNew (by omega) _) (fun hS => ?_); try simp only [put_lit, List.set_cons_zero, List.set_cons_succ]
      replace hb := below_setRow hb (g := p5) (by omega) (iv (x / t2 (n : Int)) B2 d2); replace h0 := hr_old (g := p5) (cs := iv (x / t2 (n : Int)) B2 d2) h0 (by omega); replace hp6 := hr_old (g := p5) (cs := iv (x / t2 (n : Int)) B2 d2) hp6 (by omega); replace ix := ix.put hp5 (iv (x / t2 (n : Int)) B2 d2); replace j2 := j2.put hp5 (iv (x / t2 (n : Int)) B2 d2); replace j3 := j3.put hp5 (iv (x / t2 (n : Int)) B2 d2); replace hp5 := hr_new (cs := iv (x / t2 (n : Int)) B2 d2) hp5
      refine ha_store (i := 10) (by kernel_rfl) rfl rfl 84 _ _ rfl _ (iv (v : Int) B3 d3) rfl rfl 84 _ hp6 info84 rfl (iv_one _ _ _) (hS.setNew (by omega) _) (fun hS => ?_); try simp only [put_lit, List.set_cons_zero, List.set_cons_succ]
      refine wpAnyH_done (by kernel_rfl) ?_ _
      replace hb := below_setRow hb (g := p6) (by omega) (iv (v : Int) B3 d3); replace h0 := hr_old (g := p6) (cs := iv (v : Int) B3 d3) h0 (by omega); replace hp5 := hr_old (g := p6) (cs := iv (v : Int) B3 d3) hp5 (by omega); replace ix := ix.put hp6 (iv (v : Int) B3 d3); replace j2 := j2.put hp6 (iv (v : Int) B3 d3); replace j3 := j3.put hp6 (iv (v : Int) B3 d3); replace hp6 := hr_new (cs := iv (v : Int) B3 d3) hp6
      exact tail p5 p6 _ _ _ _ _ _ _ _ _ _ _ _ _ _ _ _ _ _ _ _ _ _ _ _ _ _ (by omega) hp6 j3 hb
end Go.Proofs.Ytclainfdeghgnaa

namespace Go.Proofs.Ytclainfdeghgnaa
open Go.RowKit Go.Proofs.Ytclainfdeghgnaa.Nm Go.Proofs.Ytclainfdeghgnaa.Lm
/-- bits lie in block g -/
def BitsAt (w : World) (g n v : Nat) : Prop := g < w.heap.size ∧ ∀ j, j < n → w.cell? ⟨g, j, none⟩ = some (.int .u32 ((bt v j : Nat) : Int))
theorem BitsAt.below {w w' : World} {g n v : Nat} (h : BitsAt w g n v) (hb : Below w.heap.size w w') : BitsAt w' g n v :=
  ⟨Nat.lt_of_lt_of_le h.1 hb.size, fun j hj => by rw [hb.cell (p := ⟨g, j, none⟩) h.1]; exact h.2 j hj⟩
theorem own_bits {w : World} {b n v : Nat} {sv : Value} (h : w.ownsRow b 121 1 sv n (brow v n)) (hn : 1 ≤ n) : ∃ g cap cur, sv = .slice (some ⟨g, 0, none⟩) n cap ∧ b ≤ g ∧ BitsAt w g n v ∧ w.heap[g]? = some (.cells cur 121 (0, 0)) ∧ n ≤ cap ∧ cur.size = cap ∧ cur.toList.take n = brow v n := by
  rcases h.2 with ⟨_, h0⟩ | ⟨g, cap, cur, hv, hB, hg, h1, h2, h3, h4⟩
  · omega
  · refine ⟨g, cap, cur, hv, hB, ⟨heap_lt hg, fun j hj => ?_⟩, hg, h1, by omega, by simpa using h4⟩
    rw [cell_of_row _ _ _ _ _ _ hg]
    have := brow_get (v := v) hj
    rw [← h4, Nat.mul_one, List.getElem?_take_of_lt hj] at this
    simpa using this
/-- the value behind so many bits -/
def XB (n : Nat) (s : Bool) (v k : Nat) : Int := if s = true ∧ k = n then wrapW n s (v : Int) else ((v % 2 ^ k : Nat) : Int)
theorem XB_zero {n : Nat} (h : 1 ≤ n) (s : Bool) (v : Nat) : XB n s v 0 = 0 := by unfold XB; rw [if_neg (by omega)]; simp [Nat.mod_one]
theorem XB_bd {n k : Nat} (h1 : 1 ≤ n) (h2 : n ≤ 64) (hk : k ≤ n) (s : Bool) (v : Nat) : (XB n s v k).natAbs ≤ 18446744073709551616 := by
  unfold XB
  split
  · have := has_bd h1 h2 (wrap_has h1 s (v : Int)); omega
  · rw [Int.natAbs_natCast]
    have := Nat.mod_lt v (two_pos k)
    have := two_le (bits := k) (by omega)
    omega
theorem mod_bit (v k : Nat) : v % 2 ^ (k + 1) = v % 2 ^ k + 2 ^ k * bt v k := by unfold bt; rw [Nat.pow_succ, Nat.mod_mul]
theorem XB_full {n : Nat} (_ : 1 ≤ n) (s : Bool) {v : Nat} (hv : v < 2 ^ n) : XB n s v n = wrapW n s (v : Int) := by
  unfold XB
  cases s
  · rw [if_neg (by simp), Nat.mod_eq_of_lt hv]
    unfold wrapW loW
    simp only [Bool.false_eq_true, if_false]
    rw [Int.sub_zero, Int.emod_eq_of_lt (by omega) (by omega)]; omega
  · rw [if_pos ⟨rfl, rfl⟩]
theorem wrap_top {n v : Nat} (h1 : 1 ≤ n) (hv : v < 2 ^ n) : wrapW n true (v : Int) = ((v % 2 ^ (n - 1) : Nat) : Int) - ((2 ^ (n - 1) * bt v (n - 1) : Nat) : Int) := by
  have e := mod_bit v (n - 1)
  have hp := two_half h1
  rw [show n - 1 + 1 = n by omega, Nat.mod_eq_of_lt hv] at e
  have hb := bt_le v (n - 1)
  have hm := Nat.mod_lt v (two_pos (n - 1))
  unfold wrapW loW
  simp only [if_true]
  rcases (show bt v (n - 1) = 0 ∨ bt v (n - 1) = 1 by omega) with h | h
  · rw [h] at e ⊢
    rw [Int.emod_eq_of_lt (by omega) (by omega)]; omega
  · rw [h] at e ⊢
    have e2 : ((v : Int) - -((2 ^ (n - 1) : Nat) : Int)) % ((2 ^ n : Nat) : Int) = (v : Int) - ((2 ^ (n - 1) : Nat) : Int) := by
      rw [show (v : Int) - -((2 ^ (n - 1) : Nat) : Int) = (v : Int) - ((2 ^ (n - 1) : Nat) : Int) + ((2 ^ n : Nat) : Int) by omega, Int.add_emod_right, Int.emod_eq_of_lt (by omega) (by omega)]
    rw [e2]; omega
theorem XB_none {n k : Nat} (h1 : 1 ≤ n) (hk : k < n) (s : Bool) {v : Nat} (hv : v < 2 ^ n) (h : bt v k = 0) : XB n s v (k + 1) = XB n s v k := by
  have e := mod_bit v k
  rw [h] at e
  unfold XB
  rw [if_neg (show ¬ (s = true ∧ k = n) by omega)]
  split
  · rename_i hc
    obtain ⟨rfl, hc⟩ := hc
    subst hc
    rw [wrap_top h1 hv, Nat.add_sub_cancel, h]; simp
  · rw [e]; simp
theorem XB_top {n k : Nat} (h1 : 1 ≤ n) (hk : k + 1 = n) {v : Nat} (hv : v < 2 ^ n) (h : bt v k = 1) : XB n true v (k + 1) = XB n true v k - t2 (k : Int) := by
  unfold XB
  rw [if_neg (show ¬ (true = true ∧ k = n) by omega), if_pos ⟨rfl, hk⟩, wrap_top h1 hv]
  subst hk
  rw [Nat.add_sub_cancel, h]; unfold t2; simp
theorem XB_more {n k : Nat} (hk : k < n) {s : Bool} {v : Nat} (hs : ¬ (s = true ∧ k + 1 = n)) (h : bt v k = 1) : XB n s v (k + 1) = XB n s v k + t2 (k : Int) := by
  have e := mod_bit v k
  rw [h] at e
  unfold XB
  rw [if_neg hs, if_neg (show ¬ (s = true ∧ k = n) by omega), e]; unfold t2; simp
theorem nl_XB {n k : Nat} (h1 : 1 ≤ n) (h2 : n ≤ 64) (hk : k ≤ n) (s : Bool) (v : Nat) : nl (XB n s v k).natAbs ≤ 3 :=
  nl_le _ 3 (Nat.lt_of_le_of_lt (XB_bd h1 h2 hk s v) (by rw [B_eq]; decide))
set_option maxHeartbeats 4000000 in
set_option maxRecDepth 100000 in
theorem ValI_any (g cap n : Nat) (s : Bool) (v : Nat) (h1 : 1 ≤ n) (h2 : n ≤ 64) (hv : v < 2 ^ n) (w : World) (hc : BitsAt w g n v) :
    Calls Try.prog 96 #[.slice (some ⟨g, 0, none⟩) n cap, .bool s] w fun e w' => ∃ A2 c2, e = .returned (.agg (iv (wrapW n s (v : Int)) A2 c2)) ∧ IvAt w' (wrapW n s (v : Int)) A2 c2 ∧ Below w.heap.size w w' := by
  have HV := Lib.hid hv
  have HC := Lib.hid hc
  have HG := Lib.hid hc.1
  clear hv hc
  go_enter Try.func96, Try.ntmps96
  go_upto_region 1 with (fail)
  refine wp_world (fun W => W.heap[w.heap.size]? = some (.cells (iv 0 none 0) 84 (0, 0)) ∧ Below w.heap.size w W) ⟨by rw [iv_zero]; exact ha_new rfl, (Below.refl _ _).alloc (Nat.le_refl _) _⟩ ?_
  rintro W ⟨h0, hb⟩
  apply wp_region_lit
  refine wl_k rfl (fun K hK => ?_); go_simp; refine hK _ ?_; clear hK K
  rw [show (#[Value.bool false, Value.slice none 0 0] : Array Value) = iv 0 none 0 from iv_zero.symm]
  (have lth0p5 := heap_lt h0; have lsp5 := hb.size; (with_reducible apply wl_new84); intro w1 p5 hbn hlp5 hp5; replace h0 := below_look hbn h0; replace hb := hb.trans (hbn.mono hb.size); clear hbn)
  ((with_reducible apply wl_putI); exact rfl; exact rfl; exact hp5; intro w2 hbx hk hq hi; replace h0 := hk _ _ (by omega) h0; replace hb := hbx _ _ (by omega) hb; clear hp5; have hp5 := hq; clear hbx hk hq hi)
  go_wp2_with fail
  have X0 := XB_zero h1 s v
  go_loopw [6] (fun i wr => ∃ (k : Nat) (A2 : Option Addr) (c2 : Nat), k ≤ n ∧ i = .int .i64 (k : Int) ∧ wr.heap[p5]? = some (.cells (iv (XB n s v k) A2 c2) 84 (0, 0)) ∧ wr.heap[w.heap.size]? = some (.cells (iv 0 none 0) 84 (0, 0)) ∧ IvAt wr (XB n s v k) A2 c2 ∧ Below w.heap.size w wr) (fun i _ => (n - intOf i).toNat)
  case atStart => exact ⟨0, none, 0, by omega, rfl, by rw [X0]; exact hp5, h0, by rw [X0]; exact IvAt.zero _, hb⟩
  case round =>
    clear h0 hp5 hb X0
    obtain ⟨k, A2, c2, hk, rfl, h5, h0, hI, hb⟩ := hrel
    have NX := Lib.hid (nl_XB h1 h2 hk s v)
    by_cases hlt : k < n
    · have hcell := (hb.cell (p := ⟨g, k, none⟩) HG.out).trans (HC.out.2 k hlt)
      have hbt := bt_le v k
      by_cases hz : bt v k = 0
      · have HX := Lib.hid (XB_none h1 hlt s HV.out hz)
        rw [hz] at hcell
        clear hbt hz
        go_wp2_with fail
        go_roundw
        case rel => exact ⟨k + 1, A2, c2, by omega, by go_num, by rw [HX.out]; exact h5, h0, by rw [HX.out]; exact hI, hb⟩
        case measure => simp [intOf]; omega
      · have hz1 : bt v k = 1 := by omega
        rw [hz1] at hcell
        clear hbt hz
        have LP := heap_lt h5
        have L0 := heap_lt h0
        have LW := hb.size
        cases s
        · have HX := Lib.hid (XB_more (s := false) hlt (by simp) hz1)
          go_upto_region 8 with (fail)
          replace hb := hb.drew
          replace hI := hI.below (Below.refl _ _).drew
          refine wp_region_held_drew (S := Kept [p5] wr) mixed (Kept.drew [p5] wr) (fun hS => ?_)
          refine ha_k (i := 1) rfl (by kernel_rfl) (by kernel_rfl) (by kernel_rfl) (fun _ _ _ _ h => h) hS rfl (fun K hK => ?_); go_simp; refine hK _ ?_; clear hK K; try simp only [put_lit, List.set_cons_zero, List.set_cons_succ]
          refine ha_two (i := 0) (j := 2) (by kernel_rfl) ?_ ?_
          · refine sh_val (i := 0) rfl rfl (ex_row rfl (rowIv h5)) hS ?_; try simp only [put_lit, List.set_cons_zero, List.set_cons_succ]
            refine ha_call (i := 2) (by kernel_rfl) rfl rfl (fun K hK => ?_); go_simp; refine ⟨_, _, ⟨rfl, rfl⟩, hK _ _ ⟨_, PowerT_any (k : Int) (by omega) (by omega) _, ?_⟩⟩; clear hK K; rintro e v2 ⟨B4, d4, rfl, j4, hb1⟩; refine ⟨_, rfl, hS.below hb1, ?_⟩; replace hS := hS.below hb1; replace h0 := below_look hb1 h0; replace h5 := below_look hb1 h5; replace hI := hI.below hb1; replace hb := hb.trans (hb1.mono hb.size); clear hb1; try simp only [put_lit, List.set_cons_zero, List.set_cons_succ]
            refine ha_call (i := 3) (by kernel_rfl) rfl rfl (fun K hK => ?_); go_simp; refine ⟨_, _, ⟨rfl, rfl⟩, hK _ _ ⟨_, Sum2_any (XB n false v k) (t2 (k : Int)) _ _ _ _ _ hI j4 (by have := NX.out; omega) (by have := nl_t2 (x := (k : Int)) (by omega); omega), ?_⟩⟩; clear hK K; rintro e v3 ⟨B5, d5, rfl, j5, hb1⟩; refine ⟨_, rfl, hS.below hb1, ?_⟩; replace hS := hS.below hb1; replace h0 := below_look hb1 h0; replace h5 := below_look hb1 h5; replace hb := hb.trans (hb1.mono hb.size); clear hb1; rw [← HX.out] at j5 ⊢; try simp only [put_lit, List.set_cons_zero, List.set_cons_succ]
            refine ha_store (i := 4) (by kernel_rfl) rfl rfl 84 _ _ rfl _ (iv (XB n false v (k + 1)) B5 d5) rfl rfl 84 _ h5 info84 rfl (iv_one _ _ _) (hS.setRow (by simp) _) (fun hS => ?_); try simp only [put_lit, List.set_cons_zero, List.set_cons_succ]
            refine wpAnyH_done (by kernel_rfl) ?_ _
            replace h0 := hr_old (g := p5) (cs := iv (XB n false v (k + 1)) B5 d5) h0 (by omega)
            replace hb := below_setRow hb (g := p5) (by omega) (iv (XB n false v (k + 1)) B5 d5)
            replace j5 := j5.put h5 (iv (XB n false v (k + 1)) B5 d5)
            replace h5 := hr_new (cs := iv (XB n false v (k + 1)) B5 d5) h5
            go_wp2_with fail
            go_roundw
            case rel => exact ⟨k + 1, B5, d5, by omega, by go_num, h5, h0, j5, hb⟩
            case measure => simp [intOf]; omega
          · refine sh_call (i := 2) rfl rfl (fun K hK => ?_); go_simp; refine ⟨_, _, ⟨rfl, rfl⟩, hK _ _ ⟨_, PowerT_any (k : Int) (by omega) (by omega) _, ?_⟩⟩; clear hK K; rintro e v2 ⟨B4, d4, rfl, j4, hb1⟩; refine ⟨_, rfl, hS.below hb1, ?_⟩; replace hS := hS.below hb1; replace h0 := below_look hb1 h0; replace h5 := below_look hb1 h5; replace hI := hI.below hb1; replace hb := hb.trans (hb1.mono hb.size); clear hb1; try simp only [put_lit, List.set_cons_zero, List.set_cons_succ]
            refine ha_do (i := 0) (by kernel_rfl) rfl rfl (ex_row rfl (rowIv h5)) hS ?_; try simp only [put_lit, List.set_cons_zero, List.set_cons_succ]
            refine ha_call (i := 3) (by kernel_rfl) rfl rfl (fun K hK => ?_); go_simp; refine ⟨_, _, ⟨rfl, rfl⟩, hK _ _ ⟨_, Sum2_any (XB n false v k) (t2 (k : Int)) _ _ _ _ _ hI j4 (by have := NX.out; omega) (by have := nl_t2 (x := (k : Int)) (by omega); omega), ?_⟩⟩; clear hK K; rintro e v3 ⟨B5, d5, rfl, j5, hb1⟩; refine ⟨_, rfl, hS.below hb1, ?_⟩; replace hS := hS.below hb1; replace h0 := below_look hb1 h0; replace h5 := below_look hb1 h5; replace hb := hb.trans (hb1.mono hb.size); clear hb1; rw [← HX.out] at j5 ⊢; try simp only [put_lit, List.set_cons_zero, List.set_cons_succ]
            refine ha_store (i := 4) (by kernel_rfl) rfl rfl 84 _ _ rfl _ (iv (XB n false v (k + 1)) B5 d5) rfl rfl 84 _ h5 info84 rfl (iv_one _ _ _) (hS.setRow (by simp) _) (fun hS => ?_); try simp only [put_lit, List.set_cons_zero, List.set_cons_succ]
            refine wpAnyH_done (by kernel_rfl) ?_ _
            replace h0 := hr_old (g := p5) (cs := iv (XB n false v (k + 1)) B5 d5) h0 (by omega)
            replace hb := below_setRow hb (g := p5) (by omega) (iv (XB n false v (k + 1)) B5 d5)
            replace j5 := j5.put h5 (iv (XB n false v (k + 1)) B5 d5)
            replace h5 := hr_new (cs := iv (XB n false v (k + 1)) B5 d5) h5
            go_wp2_with fail
            go_roundw
            case rel => exact ⟨k + 1, B5, d5, by omega, by go_num, h5, h0, j5, hb⟩
            case measure => simp [intOf]; omega
        · by_cases hk1 : k + 1 = n
          · have HX := Lib.hid (XB_top h1 hk1 HV.out hz1)
            have hq : ((k : Int) == (n : Int) - 1) = true := by simp; omega
            clear hk1
            go_upto_region 7 with (fail)
            replace hb := hb.drew
            replace hI := hI.below (Below.refl _ _).drew
            refine wp_region_held_drew (S := Kept [p5] wr) mixed (Kept.drew [p5] wr) (fun hS => ?_)
            refine ha_k (i := 1) rfl (by kernel_rfl) (by kernel_rfl) (by kernel_rfl) (fun _ _ _ _ h => h) hS rfl (fun K hK => ?_); go_simp; refine hK _ ?_; clear hK K; try simp only [put_lit, List.set_cons_zero, List.set_cons_succ]
            refine ha_two (i := 0) (j := 2) (by kernel_rfl) ?_ ?_
            · refine sh_val (i := 0) rfl rfl (ex_row rfl (rowIv h5)) hS ?_; try simp only [put_lit, List.set_cons_zero, List.set_cons_succ]
              refine ha_call (i := 2) (by kernel_rfl) rfl rfl (fun K hK => ?_); go_simp; refine ⟨_, _, ⟨rfl, rfl⟩, hK _ _ ⟨_, PowerT_any (k : Int) (by omega) (by omega) _, ?_⟩⟩; clear hK K; rintro e v2 ⟨B4, d4, rfl, j4, hb1⟩; refine ⟨_, rfl, hS.below hb1, ?_⟩; replace hS := hS.below hb1; replace h0 := below_look hb1 h0; replace h5 := below_look hb1 h5; replace hI := hI.below hb1; replace hb := hb.trans (hb1.mono hb.size); clear hb1; try simp only [put_lit, List.set_cons_zero, List.set_cons_succ]
              refine ha_call (i := 3) (by kernel_rfl) rfl rfl (fun K hK => ?_); go_simp; refine ⟨_, _, ⟨rfl, rfl⟩, hK _ _ ⟨_, MinusI_any (XB n true v k) (t2 (k : Int)) _ _ _ _ _ hI j4 (by have := NX.out; omega) (by have := nl_t2 (x := (k : Int)) (by omega); omega), ?_⟩⟩; clear hK K; rintro e v3 ⟨B5, d5, rfl, j5, hb1⟩; refine ⟨_, rfl, hS.below hb1, ?_⟩; replace hS := hS.below hb1; replace h0 := below_look hb1 h0; replace h5 := below_look hb1 h5; replace hb := hb.trans (hb1.mono hb.size); clear hb1; rw [← HX.out] at j5 ⊢; try simp only [put_lit, List.set_cons_zero, List.set_cons_succ]
              refine ha_store (i := 4) (by kernel_rfl) rfl rfl 84 _ _ rfl _ (iv (XB n true v (k + 1)) B5 d5) rfl rfl 84 _ h5 info84 rfl (iv_one _ _ _) (hS.setRow (by simp) _) (fun hS => ?_); try simp only [put_lit, List.set_cons_zero, List.set_cons_succ]
              refine wpAnyH_done (by kernel_rfl) ?_ _
              replace h0 := hr_old (g := p5) (cs := iv (XB n true v (k + 1)) B5 d5) h0 (by omega)
              replace hb := below_setRow hb (g := p5) (by omega) (iv (XB n true v (k + 1)) B5 d5)
              replace j5 := j5.put h5 (iv (XB n true v (k + 1)) B5 d5)
              replace h5 := hr_new (cs := iv (XB n true v (k + 1)) B5 d5) h5
              go_wp2_with fail
              go_roundw
              case rel => exact ⟨k + 1, B5, d5, by omega, by go_num, h5, h0, j5, hb⟩
              case measure => simp [intOf]; omega
            · refine sh_call (i := 2) rfl rfl (fun K hK => ?_); go_simp; refine ⟨_, _, ⟨rfl, rfl⟩, hK _ _ ⟨_, PowerT_any (k : Int) (by omega) (by omega) _, ?_⟩⟩; clear hK K; rintro e v2 ⟨B4, d4, rfl, j4, hb1⟩; refine ⟨_, rfl, hS.below hb1, ?_⟩; replace hS := hS.below hb1; replace h0 := below_look hb1 h0; replace h5 := below_look hb1 h5; replace hI := hI.below hb1; replace hb := hb.trans (hb1.mono hb.size); clear hb1; try simp only [put_lit, List.set_cons_zero, List.set_cons_succ]
              refine ha_do (i := 0) (by kernel_rfl) rfl rfl (ex_row rfl (rowIv h5)) hS ?_; try simp only [put_lit, List.set_cons_zero, List.set_cons_succ]
              refine ha_call (i := 3) (by kernel_rfl) rfl rfl (fun K hK => ?_); go_simp; refine ⟨_, _, ⟨rfl, rfl⟩, hK _ _ ⟨_, MinusI_any (XB n true v k) (t2 (k : Int)) _ _ _ _ _ hI j4 (by have := NX.out; omega) (by have := nl_t2 (x := (k : Int)) (by omega); omega), ?_⟩⟩; clear hK K; rintro e v3 ⟨B5, d5, rfl, j5, hb1⟩; refine ⟨_, rfl, hS.below hb1, ?_⟩; replace hS := hS.below hb1; replace h0 := below_look hb1 h0; replace h5 := below_look hb1 h5; replace hb := hb.trans (hb1.mono hb.size); clear hb1; rw [← HX.out] at j5 ⊢; try simp only [put_lit, List.set_cons_zero, List.set_cons_succ]
              refine ha_store (i := 4) (by kernel_rfl) rfl rfl 84 _ _ rfl _ (iv (XB n true v (k + 1)) B5 d5) rfl rfl 84 _ h5 info84 rfl (iv_one _ _ _) (hS.setRow (by simp) _) (fun hS => ?_); try simp only [put_lit, List.set_cons_zero, List.set_cons_succ]
              refine wpAnyH_done (by kernel_rfl) ?_ _
              replace h0 := hr_old (g := p5) (cs := iv (XB n true v (k + 1)) B5 d5) h0 (by omega)
              replace hb := below_setRow hb (g := p5) (by omega) (iv (XB n true v (k + 1)) B5 d5)
              replace j5 := j5.put h5 (iv (XB n true v (k + 1)) B5 d5)
              replace h5 := hr_new (cs := iv (XB n true v (k + 1)) B5 d5) h5
              go_wp2_with fail
              go_roundw
              case rel => exact ⟨k + 1, B5, d5, by omega, by go_num, h5, h0, j5, hb⟩
              case measure => simp [intOf]; omega
          · have HX := Lib.hid (XB_more (s := true) hlt (by simp [hk1]) hz1)
            have hq : ((k : Int) == (n : Int) - 1) = false := by simp; omega
            go_upto_region 8 with (fail)
            replace hb := hb.drew
            replace hI := hI.below (Below.refl _ _).drew
            refine wp_region_held_drew (S := Kept [p5] wr) mixed (Kept.drew [p5] wr) (fun hS => ?_)
            refine ha_k (i := 1) rfl (by kernel_rfl) (by kernel_rfl) (by kernel_rfl) (fun _ _ _ _ h => h) hS rfl (fun K hK => ?_); go_simp; refine hK _ ?_; clear hK K; try simp only [put_lit, List.set_cons_zero, List.set_cons_succ]
            refine ha_two (i := 0) (j := 2) (by kernel_rfl) ?_ ?_
            · refine sh_val (i := 0) rfl rfl (ex_row rfl (rowIv h5)) hS ?_; try simp only [put_lit, List.set_cons_zero, List.set_cons_succ]
              refine ha_call (i := 2) (by kernel_rfl) rfl rfl (fun K hK => ?_); go_simp; refine ⟨_, _, ⟨rfl, rfl⟩, hK _ _ ⟨_, PowerT_any (k : Int) (by omega) (by omega) _, ?_⟩⟩; clear hK K; rintro e v2 ⟨B4, d4, rfl, j4, hb1⟩; refine ⟨_, rfl, hS.below hb1, ?_⟩; replace hS := hS.below hb1; replace h0 := below_look hb1 h0; replace h5 := below_look hb1 h5; replace hI := hI.below hb1; replace hb := hb.trans (hb1.mono hb.size); clear hb1; try simp only [put_lit, List.set_cons_zero, List.set_cons_succ]
              refine ha_call (i := 3) (by kernel_rfl) rfl rfl (fun K hK => ?_); go_simp; refine ⟨_, _, ⟨rfl, rfl⟩, hK _ _ ⟨_, Sum2_any (XB n true v k) (t2 (k : Int)) _ _ _ _ _ hI j4 (by have := NX.out; omega) (by have := nl_t2 (x := (k : Int)) (by omega); omega), ?_⟩⟩; clear hK K; rintro e v3 ⟨B5, d5, rfl, j5, hb1⟩; refine ⟨_, rfl, hS.below hb1, ?_⟩; replace hS := hS.below hb1; replace h0 := below_look hb1 h0; replace h5 := below_look hb1 h5; replace hb := hb.trans (hb1.mono hb.size); clear hb1; rw [← HX.out] at j5 ⊢; try simp only [put_lit, List.set_cons_zero, List.set_cons_succ]
              refine ha_store (i := 4) (by kernel_rfl) rfl rfl 84 _ _ rfl _ (iv (XB n true v (k + 1)) B5 d5) rfl rfl 84 _ h5 info84 rfl (iv_one _ _ _) (hS.setRow (by simp) _) (fun hS => ?_); try simp only [put_lit, List.set_cons_zero, List.set_cons_succ]
              refine wpAnyH_done (by kernel_rfl) ?_ _
              replace h0 := hr_old (g := p5) (cs := iv (XB n true v (k + 1)) B5 d5) h0 (by omega)
              replace hb := below_setRow hb (g := p5) (by omega) (iv (XB n true v (k + 1)) B5 d5)
              replace j5 := j5.put h5 (iv (XB n true v (k + 1)) B5 d5)
              replace h5 := hr_new (cs := iv (XB n true v (k + 1)) B5 d5) h5
              go_wp2_with fail
              go_roundw
              case rel => exact ⟨k + 1, B5, d5, by omega, by go_num, h5, h0, j5, hb⟩
              case measure => simp [intOf]; omega
            · refine sh_call (i := 2) rfl rfl (fun K hK => ?_); go_simp; refine ⟨_, _, ⟨rfl, rfl⟩, hK _ _ ⟨_, PowerT_any (k : Int) (by omega) (by omega) _, ?_⟩⟩; clear hK K; rintro e v2 ⟨B4, d4, rfl, j4, hb1⟩; refine ⟨_, rfl, hS.below hb1, ?_⟩; replace hS := hS.below hb1; replace h0 := below_look hb1 h0; replace h5 := below_look hb1 h5; replace hI := hI.below hb1; replace hb := hb.trans (hb1.mono hb.size); clear hb1; try simp only [put_lit, List.set_cons_zero, List.set_cons_succ]
              refine ha_do (i := 0) (by kernel_rfl) rfl rfl (ex_row rfl (rowIv h5)) hS ?_; try simp only [put_lit, List.set_cons_zero, List.set_cons_succ]
              refine ha_call (i := 3) (by kernel_rfl) rfl rfl (fun K hK => ?_); go_simp; refine ⟨_, _, ⟨rfl, rfl⟩, hK _ _ ⟨_, Sum2_any (XB n true v k) (t2 (k : Int)) _ _ _ _ _ hI j4 (by have := NX.out; omega) (by have := nl_t2 (x := (k : Int)) (by omega); omega), ?_⟩⟩; clear hK K; rintro e v3 ⟨B5, d5, rfl, j5, hb1⟩; refine ⟨_, rfl, hS.below hb1, ?_⟩; replace hS := hS.below hb1; replace h0 := below_look hb1 h0; replace h5 := below_look hb1 h5; replace hb := hb.trans (hb1.mono hb.size); clear hb1; rw [← HX.out] at j5 ⊢; try simp only [put_lit, List.set_cons_zero, List.set_cons_succ]
              refine ha_store (i := 4) (by kernel_rfl) rfl rfl 84 _ _ rfl _ (iv (XB n true v (k + 1)) B5 d5) rfl rfl 84 _ h5 info84 rfl (iv_one _ _ _) (hS.setRow (by simp) _) (fun hS => ?_); try simp only [put_lit, List.set_cons_zero, List.set_cons_succ]
              refine wpAnyH_done (by kernel_rfl) ?_ _
              replace h0 := hr_old (g := p5) (cs := iv (XB n true v (k + 1)) B5 d5) h0 (by omega)
              replace hb := below_setRow hb (g := p5) (by omega) (iv (XB n true v (k + 1)) B5 d5)
              replace j5 := j5.put h5 (iv (XB n true v (k + 1)) B5 d5)
              replace h5 := hr_new (cs := iv (XB n true v (k + 1)) B5 d5) h5
              go_wp2_with fail
              go_roundw
              case rel => exact ⟨k + 1, B5, d5, by omega, by go_num, h5, h0, j5, hb⟩
              case measure => simp [intOf]; omega
    · obtain rfl : k = n := by omega
      have HX := Lib.hid (XB_full h1 s HV.out)
      go_upto_region 9 with (fail)
      apply wp_region_lit
      ((with_reducible apply wl_rowG); exact rfl; exact rfl; exact rowIv (by with_reducible assumption))
      ((with_reducible apply wl_putI); exact rfl; exact rfl; exact h0; intro w5 hbx hk hq hi; replace hI := hi _ _ _ hI; replace hb := hbx _ _ (by omega) hb; clear h0; have h0 := hq; clear hbx hk hq hi)
      go_wp2_with fail
      rw [HX.out] at h0 hI
      exact bodyPost_ret (res_iv rfl _ _ w.heap.size rfl h0) rfl ⟨A2, c2, rfl, hI, hb⟩
end Go.Proofs.Ytclainfdeghgnaa

namespace Go.Proofs.Ytclainfdeghgnaa.Nm
open Go.RowKit Go.Proofs.Ytclainfdeghgnaa
theorem run_store121 (ad : Addr) (b : Int) (old : Value) (w : World) (hc : w.cell? ad = some old) (hf : w.frozen? ad = false) :
    (storeVar 121 ad (.int .u32 b)).run Try.prog w = .ok () (w.setCell ad (.int .u32 b)) := by
  cases hq : Try.prog.info? 121 with
  | none => have := info121; simp [hq] at this
  | some i =>
    have hs : i.size = 1 := by have := info121; simp [hq] at this; exact this.2.1
    have ha : ad.add 0 = ad := by cases ad; simp [Addr.add]
    simp [storeVar, sizeOf, typeInfo, hq, hs, Value.cells, storeCells, ha]
    rw [run_store_int]
    simp [stored, hc, hf]
theorem wp_store121 {o : Oper} {a : Act} {w : World} {K : Act → World → Prop} {Q : Exit → Act → World → Prop} (x y : Operand) (ho : o.op = .store 121 x y) (ad : Addr) (b : Int) (old : Value)
    (hx : a.eval x = .pointer (some ad)) (hy : a.eval y = .int .u32 b) (hc : w.cell? ad = some old) (hf : w.frozen? ad = false)
    (h : K (a.put o.dst undef) (w.setCell ad (.int .u32 b))) : o.wp Try.prog a w K Q := by
  unfold Oper.wp execOp
  simp only [ho, hx, hy, Instr.storeAt, Instr.sureAddr, Sem.run_bind, Sem.run_pure, Result.andThen_ok, run_store121 ad b old w hc hf]
  exact h
section
variable {ops : Array Oper} {Q : Exit → Act → World → Prop} {md : Region.Mode} {S : World → Prop} {i : Nat} {oi : Oper} {fuel : Nat} {listed : Array Bool} {a : Act} {w : World}
theorem ha_cell121 (hr : Region.ready md ops listed = [i]) (ho : ops[i]? = some oi) (hg : Region.wanted oi (yielded ops a.tmps) = true) (x y : Operand) (hop : oi.op = .store 121 x y) (ad : Addr) (b : Int) (old : Value)
    (hx : a.eval x = .pointer (some ad)) (hy : a.eval y = .int .u32 b) (hc : w.cell? ad = some old) (hf : w.frozen? ad = false) (hS : S (w.setCell ad (.int .u32 b)))
    (h : S (w.setCell ad (.int .u32 b)) → wpAnyH Try.prog md ops Q S fuel (listed.setIfInBounds i true) (a.put oi.dst undef) (w.setCell ad (.int .u32 b))) : wpAnyH Try.prog md ops Q S (fuel + 1) listed a w := by
  refine wpAnyH_ready (rs := [i]) hr (by simp) (AllReadyH.cons ho (fun K hK => ?_) AllReadyH.nil)
  rw [if_pos hg]
  exact wp_store121 x y hop ad b old hx hy hc hf (hK.out _ _ hS h)
end
end Go.Proofs.Ytclainfdeghgnaa.Nm

namespace Go.Proofs.Ytclainfdeghgnaa
open Go.RowKit Go.Proofs.Ytclainfdeghgnaa.Nm Go.Proofs.Ytclainfdeghgnaa.Lm
theorem nl_3 {x : Int} (h : x.natAbs ≤ 18446744073709551616) : nl x.natAbs ≤ 3 := nl_le _ 3 (Nat.lt_of_le_of_lt h (by rw [B_eq]; decide))
theorem one121 {w : World} {ad : Addr} {v : Value} (h : w.cell? ad = some v) : OneAt w 121 ad v := one_of u121 rfl h
theorem bt_test (v k : Nat) : bt v k = if v.testBit k then 1 else 0 := by
  unfold bt; rw [Nat.testBit_eq_decide_div_mod_eq]
  have := Nat.mod_lt (v / 2 ^ k) (show 0 < 2 by decide)
  by_cases h : v / 2 ^ k % 2 = 1
  · simp [h]
  · rw [decide_eq_false h]; simp; omega
theorem bits_and (v u k : Nat) : bits .and .u32 ((bt v k : Nat) : Int) ((bt u k : Nat) : Int) = ((bt (v &&& u) k : Nat) : Int) := by
  rw [bt_test, bt_test, bt_test, Nat.testBit_and]; cases v.testBit k <;> cases u.testBit k <;> rfl
theorem bits_or (v u k : Nat) : bits .or .u32 ((bt v k : Nat) : Int) ((bt u k : Nat) : Int) = ((bt (v ||| u) k : Nat) : Int) := by
  rw [bt_test, bt_test, bt_test, Nat.testBit_or]; cases v.testBit k <;> cases u.testBit k <;> rfl
theorem bits_xor (v u k : Nat) : bits .xor .u32 ((bt v k : Nat) : Int) ((bt u k : Nat) : Int) = ((bt (v ^^^ u) k : Nat) : Int) := by
  rw [bt_test, bt_test, bt_test, Nat.testBit_xor]; cases v.testBit k <;> cases u.testBit k <;> rfl
/-- words lie in block g, which may be written -/
def WordsAt (w : World) (g n : Nat) (f : Nat → Nat) : Prop := ∃ cur, w.heap[g]? = some (.cells cur 121 (0, 0)) ∧ ∀ j, j < n → cur[j]? = some (.int .u32 ((f j : Nat) : Int))
theorem WordsAt.below {w w' : World} {g n : Nat} {f : Nat → Nat} (h : WordsAt w g n f) (hb : Below w.heap.size w w') : WordsAt w' g n f := by
  obtain ⟨cur, h1, h2⟩ := h; exact ⟨cur, below_look hb h1, h2⟩
theorem WordsAt.lt {w : World} {g n : Nat} {f : Nat → Nat} (h : WordsAt w g n f) : g < w.heap.size := by obtain ⟨_, h, _⟩ := h; exact heap_lt h
theorem WordsAt.cell {w : World} {g n k : Nat} {f : Nat → Nat} (h : WordsAt w g n f) (hk : k < n) : w.cell? ⟨g, k, none⟩ = some (.int .u32 ((f k : Nat) : Int)) ∧ w.frozen? ⟨g, k, none⟩ = false := by
  obtain ⟨cur, h1, h2⟩ := h
  exact ⟨by rw [cell_of_row _ _ _ _ _ _ h1]; exact h2 k hk, frozen_of_row _ _ _ _ _ h1⟩
theorem WordsAt.bits {w : World} {g n v : Nat} {f : Nat → Nat} (h : WordsAt w g n f) (hf : ∀ j, j < n → f j = bt v j) : BitsAt w g n v :=
  ⟨h.lt, fun j hj => by rw [(h.cell hj).1, hf j hj]⟩
theorem WordsAt.other {w : World} {g n p k : Nat} {f : Nat → Nat} {v : Value} (h : WordsAt w g n f) (hp : p ≠ g) : WordsAt (w.setCell ⟨p, k, none⟩ v) g n f := by
  obtain ⟨cur, h1, h2⟩ := h; exact ⟨cur, hs_old h1 (fun e => hp e.symm), h2⟩
theorem WordsAt.set {w : World} {g n k z : Nat} {f f' : Nat → Nat} (h : WordsAt w g n f) (hk : k < n) (h1 : f' k = z) (h2 : ∀ j, j ≠ k → f' j = f j) : WordsAt (w.setCell ⟨g, k, none⟩ (.int .u32 ((z : Nat) : Int))) g n f' := by
  obtain ⟨cur, g1, g2⟩ := h
  refine ⟨_, hs_new g1, fun j hj => ?_⟩
  by_cases e : k = j
  · subst e
    have hlt : k < cur.size := by have := g2 k hk; exact (Array.getElem?_eq_some_iff.1 this).1
    rw [Array.getElem?_setIfInBounds_self_of_lt hlt, h1]
  · rw [Array.getElem?_setIfInBounds_ne e, g2 j hj, h2 j (fun e' => e e'.symm)]
theorem own_words {w : World} {b n v : Nat} {sv : Value} (h : w.ownsRow b 121 1 sv n (brow v n)) (hn : 1 ≤ n) : ∃ g cap, sv = .slice (some ⟨g, 0, none⟩) n cap ∧ b ≤ g ∧ WordsAt w g n (bt v) := by
  obtain ⟨g, cap, cur, h1, h2, _, h3, h4, h5, h6⟩ := own_bits h hn
  refine ⟨g, cap, h1, h2, cur, h3, fun j hj => ?_⟩
  have := brow_get (v := v) hj
  rw [← h6, List.getElem?_take_of_lt hj] at this
  simpa using this
set_option maxHeartbeats 1000000 in
set_option maxRecDepth 100000 in
theorem exactI_add (op : ByteArray) (n : Int) (s : Bool) (x y : Int) (A A' : Option Addr) (c c' : Nat) (hop : op.data.toList = [43]) (hx : x.natAbs ≤ 18446744073709551616) (hy : y.natAbs ≤ 18446744073709551616) (w : World) (hI : IvAt w x A c) (hJ : IvAt w y A' c') :
    Calls Try.prog 70 #[.string op, .agg (iv x A c), .agg (iv y A' c'), .int .i64 n, .bool s] w fun e w' => ∃ A2 c2, e = .returned (.agg (iv (x + y) A2 c2)) ∧ IvAt w' (x + y) A2 c2 ∧ Below w.heap.size w w' := by
  have HX := Lib.hid hI
  have HY := Lib.hid hJ
  have nx := nl_3 hx
  have ny := nl_3 hy
  clear hI hJ
  have l1 := lit_eq hop (l := [43]) rfl
  clear hop hx hy
  go_enter Try.func70, Try.ntmps70
  go_upto_region 1 with (fail)
  refine wp_world (fun W => W.heap[w.heap.size]? = some (.cells (iv x A c) 84 (0, 0)) ∧ W.heap[w.heap.size + 1]? = some (.cells (iv y A' c') 84 (0, 0)) ∧ W.heap[w.heap.size + 1 + 1]? = some (.cells (iv 0 none 0) 84 (0, 0)) ∧ Below w.heap.size w W) ⟨ha_old (ha_old (ha_new rfl)), ha_old (ha_new (by simp)), by rw [iv_zero]; exact ha_new (by simp), (((Below.refl _ _).alloc (Nat.le_refl _) _).alloc (by simp) _).alloc (by simp; omega) _⟩ ?_
  rintro W ⟨h0, h1, h2, hb⟩
  have ix := HX.out.below hb
  have iy := HY.out.below hb
  go_upto_region 3 with (fail)
  apply wp_region_lit
  ((with_reducible apply wl_rowG); exact rfl; exact rfl; exact rowIv h0)
  ((with_reducible apply wl_rowG); exact rfl; exact rfl; exact rowIv h1)
  refine wl_ck rfl (fun K hK => ?_); go_simp; refine ⟨_, _, ⟨rfl, rfl⟩, hK _ _ ⟨_, Sum2_any x y _ _ _ _ _ ix iy (by omega) (by omega), ?_⟩⟩; clear hK K; rintro e w1 ⟨A2, c2, rfl, i2, hb1⟩; refine ⟨_, rfl, ?_⟩; simp only [put_lit, List.set_cons_zero, List.set_cons_succ]
  replace h2 := below_look hb1 h2; replace hb := hb.trans (hb1.mono hb.size); clear hb1
  ((with_reducible apply wl_putI); exact rfl; exact rfl; exact h2; intro w2 hbx hk hq hi; replace i2 := hi _ _ _ i2; replace hb := hbx _ _ (by omega) hb; clear h2; have h2 := hq; clear hbx hk hq hi)
  go_wp2_with fail
  exact bodyPost_ret (res_iv rfl _ _ (w.heap.size + 1 + 1) rfl h2) rfl ⟨_, _, rfl, i2, hb⟩
set_option maxHeartbeats 1000000 in
set_option maxRecDepth 100000 in
theorem exactI_sub (op : ByteArray) (n : Int) (s : Bool) (x y : Int) (A A' : Option Addr) (c c' : Nat) (hop : op.data.toList = [45]) (hx : x.natAbs ≤ 18446744073709551616) (hy : y.natAbs ≤ 18446744073709551616) (w : World) (hI : IvAt w x A c) (hJ : IvAt w y A' c') :
    Calls Try.prog 70 #[.string op, .agg (iv x A c), .agg (iv y A' c'), .int .i64 n, .bool s] w fun e w' => ∃ A2 c2, e = .returned (.agg (iv (x - y) A2 c2)) ∧ IvAt w' (x - y) A2 c2 ∧ Below w.heap.size w w' := by
  have HX := Lib.hid hI
  have HY := Lib.hid hJ
  have nx := nl_3 hx
  have ny := nl_3 hy
  clear hI hJ
  have l1 := lit_eq hop (l := [43]) rfl
  have l2 := lit_eq hop (l := [45]) rfl
  clear hop hx hy
  go_enter Try.func70, Try.ntmps70
  go_upto_region 1 with (fail)
  refine wp_world (fun W => W.heap[w.heap.size]? = some (.cells (iv x A c) 84 (0, 0)) ∧ W.heap[w.heap.size + 1]? = some (.cells (iv y A' c') 84 (0, 0)) ∧ W.heap[w.heap.size + 1 + 1]? = some (.cells (iv 0 none 0) 84 (0, 0)) ∧ Below w.heap.size w W) ⟨ha_old (ha_old (ha_new rfl)), ha_old (ha_new (by simp)), by rw [iv_zero]; exact ha_new (by simp), (((Below.refl _ _).alloc (Nat.le_refl _) _).alloc (by simp) _).alloc (by simp; omega) _⟩ ?_
  rintro W ⟨h0, h1, h2, hb⟩
  have ix := HX.out.below hb
  have iy := HY.out.below hb
  go_upto_region 5 with (fail)
  apply wp_region_lit
  ((with_reducible apply wl_rowG); exact rfl; exact rfl; exact rowIv h0)
  ((with_reducible apply wl_rowG); exact rfl; exact rfl; exact rowIv h1)
  refine wl_ck rfl (fun K hK => ?_); go_simp; refine ⟨_, _, ⟨rfl, rfl⟩, hK _ _ ⟨_, MinusI_any x y _ _ _ _ _ ix iy (by omega) (by omega), ?_⟩⟩; clear hK K; rintro e w1 ⟨A2, c2, rfl, i2, hb1⟩; refine ⟨_, rfl, ?_⟩; simp only [put_lit, List.set_cons_zero, List.set_cons_succ]
  replace h2 := below_look hb1 h2; replace hb := hb.trans (hb1.mono hb.size); clear hb1
  ((with_reducible apply wl_putI); exact rfl; exact rfl; exact h2; intro w2 hbx hk hq hi; replace i2 := hi _ _ _ i2; replace hb := hbx _ _ (by omega) hb; clear h2; have h2 := hq; clear hbx hk hq hi)
  go_wp2_with fail
  exact bodyPost_ret (res_iv rfl _ _ (w.heap.size + 1 + 1) rfl h2) rfl ⟨_, _, rfl, i2, hb⟩
set_option maxHeartbeats 1000000 in
set_option maxRecDepth 100000 in
theorem exactI_mul (op : ByteArray) (n : Int) (s : Bool) (x y : Int) (A A' : Option Addr) (c c' : Nat) (hop : op.data.toList = [42]) (hx : x.natAbs ≤ 18446744073709551616) (hy : y.natAbs ≤ 18446744073709551616) (w : World) (hI : IvAt w x A c) (hJ : IvAt w y A' c') :
    Calls Try.prog 70 #[.string op, .agg (iv x A c), .agg (iv y A' c'), .int .i64 n, .bool s] w fun e w' => ∃ A2 c2, e = .returned (.agg (iv (x * y) A2 c2)) ∧ IvAt w' (x * y) A2 c2 ∧ Below w.heap.size w w' := by
  have HX := Lib.hid hI
  have HY := Lib.hid hJ
  have nx := nl_3 hx
  have ny := nl_3 hy
  clear hI hJ
  have l1 := lit_eq hop (l := [43]) rfl
  have l2 := lit_eq hop (l := [45]) rfl
  have l3 := lit_eq hop (l := [42]) rfl
  clear hop hx hy
  go_enter Try.func70, Try.ntmps70
  go_upto_region 1 with (fail)
  refine wp_world (fun W => W.heap[w.heap.size]? = some (.cells (iv x A c) 84 (0, 0)) ∧ W.heap[w.heap.size + 1]? = some (.cells (iv y A' c') 84 (0, 0)) ∧ W.heap[w.heap.size + 1 + 1]? = some (.cells (iv 0 none 0) 84 (0, 0)) ∧ Below w.heap.size w W) ⟨ha_old (ha_old (ha_new rfl)), ha_old (ha_new (by simp)), by rw [iv_zero]; exact ha_new (by simp), (((Below.refl _ _).alloc (Nat.le_refl _) _).alloc (by simp) _).alloc (by simp; omega) _⟩ ?_
  rintro W ⟨h0, h1, h2, hb⟩
  have ix := HX.out.below hb
  have iy := HY.out.below hb
  go_upto_region 7 with (fail)
  apply wp_region_lit
  ((with_reducible apply wl_rowG); exact rfl; exact rfl; exact rowIv h0)
  ((with_reducible apply wl_rowG); exact rfl; exact rfl; exact rowIv h1)
  refine wl_ck rfl (fun K hK => ?_); go_simp; refine ⟨_, _, ⟨rfl, rfl⟩, hK _ _ ⟨_, TimesI_any x y _ _ _ _ _ ix iy (by omega) (by omega), ?_⟩⟩; clear hK K; rintro e w1 ⟨A2, c2, rfl, i2, hb1⟩; refine ⟨_, rfl, ?_⟩; simp only [put_lit, List.set_cons_zero, List.set_cons_succ]
  replace h2 := below_look hb1 h2; replace hb := hb.trans (hb1.mono hb.size); clear hb1
  ((with_reducible apply wl_putI); exact rfl; exact rfl; exact h2; intro w2 hbx hk hq hi; replace i2 := hi _ _ _ i2; replace hb := hbx _ _ (by omega) hb; clear h2; have h2 := hq; clear hbx hk hq hi)
  go_wp2_with fail
  exact bodyPost_ret (res_iv rfl _ _ (w.heap.size + 1 + 1) rfl h2) rfl ⟨_, _, rfl, i2, hb⟩
set_option maxHeartbeats 1000000 in
set_option maxRecDepth 100000 in
theorem exactI_div (op : ByteArray) (n : Int) (s : Bool) (x y : Int) (A A' : Option Addr) (c c' : Nat) (hop : op.data.toList = [47]) (hx : x.natAbs ≤ 18446744073709551616) (hy : y.natAbs ≤ 18446744073709551616) (h0 : y ≠ 0) (w : World) (hI : IvAt w x A c) (hJ : IvAt w y A' c') :
    Calls Try.prog 70 #[.string op, .agg (iv x A c), .agg (iv y A' c'), .int .i64 n, .bool s] w fun e w' => ∃ A2 c2, e = .returned (.agg (iv (Int.tdiv x y) A2 c2)) ∧ IvAt w' (Int.tdiv x y) A2 c2 ∧ Below w.heap.size w w' := by
  have HX := Lib.hid hI
  have HY := Lib.hid hJ
  have nx := nl_3 hx
  have ny := nl_3 hy
  clear hI hJ
  have HZ := Lib.hid h0
  have l1 := lit_eq hop (l := [43]) rfl
  have l2 := lit_eq hop (l := [45]) rfl
  have l3 := lit_eq hop (l := [42]) rfl
  have l4 := lit_eq hop (l := [47]) rfl
  clear hop hx hy h0
  go_enter Try.func70, Try.ntmps70
  go_upto_region 1 with (fail)
  refine wp_world (fun W => W.heap[w.heap.size]? = some (.cells (iv x A c) 84 (0, 0)) ∧ W.heap[w.heap.size + 1]? = some (.cells (iv y A' c') 84 (0, 0)) ∧ W.heap[w.heap.size + 1 + 1]? = some (.cells (iv 0 none 0) 84 (0, 0)) ∧ Below w.heap.size w W) ⟨ha_old (ha_old (ha_new rfl)), ha_old (ha_new (by simp)), by rw [iv_zero]; exact ha_new (by simp), (((Below.refl _ _).alloc (Nat.le_refl _) _).alloc (by simp) _).alloc (by simp; omega) _⟩ ?_
  rintro W ⟨h0, h1, h2, hb⟩
  have ix := HX.out.below hb
  have iy := HY.out.below hb
  go_upto_region 10 with (fail)
  apply wp_region_lit
  ((with_reducible apply wl_rowG); exact rfl; exact rfl; exact rowIv h0)
  ((with_reducible apply wl_rowG); exact rfl; exact rfl; exact rowIv h1)
  refine wl_ck rfl (fun K hK => ?_); go_simp; refine ⟨_, _, ⟨rfl, rfl⟩, hK _ _ ⟨_, PartedI_any x y _ _ _ _ _ ix iy (by omega) (by omega) HZ.out, ?_⟩⟩; clear hK K; rintro e w1 ⟨A2, c2, A3, c3, rfl, i2, i3, hb1⟩; refine ⟨_, rfl, ?_⟩; simp only [put_lit, List.set_cons_zero, List.set_cons_succ]
  replace h2 := below_look hb1 h2; replace hb := hb.trans (hb1.mono hb.size); clear hb1
  refine wl_k rfl (fun K hK => ?_); go_simp; refine hK _ ?_; clear hK K
  refine wl_k rfl (fun K hK => ?_); go_simp; refine hK _ ?_; clear hK K
  refine wl_k rfl (fun K hK => ?_); go_simp; refine hK _ ?_; clear hK K
  (have lth2p11 := heap_lt h2; have lsp11 := hb.size; (with_reducible apply wl_new84); intro w2 p11 hbn hlp11 hp11; replace h2 := below_look hbn h2; replace i2 := i2.below hbn; replace i3 := i3.below hbn; replace hb := hb.trans (hbn.mono hb.size); clear hbn)
  (have lth2p12 := heap_lt h2; have lthp11p12 := heap_lt hp11; have lsp12 := hb.size; (with_reducible apply wl_new84); intro w3 p12 hbn hlp12 hp12; replace h2 := below_look hbn h2; replace hp11 := below_look hbn hp11; replace i2 := i2.below hbn; replace i3 := i3.below hbn; replace hb := hb.trans (hbn.mono hb.size); clear hbn)
  ((with_reducible apply wl_putI); exact rfl; exact rfl; exact hp11; intro w4 hbx hk hq hi; replace h2 := hk _ _ (by omega) h2; replace hp12 := hk _ _ (by omega) hp12; replace i2 := hi _ _ _ i2; replace i3 := hi _ _ _ i3; replace hb := hbx _ _ (by omega) hb; clear hp11; have hp11 := hq; clear hbx hk hq hi)
  ((with_reducible apply wl_putI); exact rfl; exact rfl; exact hp12; intro w5 hbx hk hq hi; replace h2 := hk _ _ (by omega) h2; replace hp11 := hk _ _ (by omega) hp11; replace i2 := hi _ _ _ i2; replace i3 := hi _ _ _ i3; replace hb := hbx _ _ (by omega) hb; clear hp12; have hp12 := hq; clear hbx hk hq hi)
  go_upto_region 12 with (fail)
  apply wp_region_lit
  ((with_reducible apply wl_rowG); exact rfl; exact rfl; exact rowIv hp11)
  ((with_reducible apply wl_putI); exact rfl; exact rfl; exact h2; intro w6 hbx hk hq hi; replace i2 := hi _ _ _ i2; replace i3 := hi _ _ _ i3; replace hb := hbx _ _ (by omega) hb; clear h2; have h2 := hq; clear hbx hk hq hi)
  go_wp2_with fail
  exact bodyPost_ret (res_iv rfl _ _ (w.heap.size + 1 + 1) rfl h2) rfl ⟨_, _, rfl, i2, hb⟩
set_option maxHeartbeats 1000000 in
set_option maxRecDepth 100000 in
theorem exactI_mod (op : ByteArray) (n : Int) (s : Bool) (x y : Int) (A A' : Option Addr) (c c' : Nat) (hop : op.data.toList = [37]) (hx : x.natAbs ≤ 18446744073709551616) (hy : y.natAbs ≤ 18446744073709551616) (h0 : y ≠ 0) (w : World) (hI : IvAt w x A c) (hJ : IvAt w y A' c') :
    Calls Try.prog 70 #[.string op, .agg (iv x A c), .agg (iv y A' c'), .int .i64 n, .bool s] w fun e w' => ∃ A2 c2, e = .returned (.agg (iv (Int.tmod x y) A2 c2)) ∧ IvAt w' (Int.tmod x y) A2 c2 ∧ Below w.heap.size w w' := by
  have HX := Lib.hid hI
  have HY := Lib.hid hJ
  have nx := nl_3 hx
  have ny := nl_3 hy
  clear hI hJ
  have HZ := Lib.hid h0
  have l1 := lit_eq hop (l := [43]) rfl
  have l2 := lit_eq hop (l := [45]) rfl
  have l3 := lit_eq hop (l := [42]) rfl
  have l4 := lit_eq hop (l := [47]) rfl
  have l5 := lit_eq hop (l := [37]) rfl
  clear hop hx hy h0
  go_enter Try.func70, Try.ntmps70
  go_upto_region 1 with (fail)
  refine wp_world (fun W => W.heap[w.heap.size]? = some (.cells (iv x A c) 84 (0, 0)) ∧ W.heap[w.heap.size + 1]? = some (.cells (iv y A' c') 84 (0, 0)) ∧ W.heap[w.heap.size + 1 + 1]? = some (.cells (iv 0 none 0) 84 (0, 0)) ∧ Below w.heap.size w W) ⟨ha_old (ha_old (ha_new rfl)), ha_old (ha_new (by simp)), by rw [iv_zero]; exact ha_new (by simp), (((Below.refl _ _).alloc (Nat.le_refl _) _).alloc (by simp) _).alloc (by simp; omega) _⟩ ?_
  rintro W ⟨h0, h1, h2, hb⟩
  have ix := HX.out.below hb
  have iy := HY.out.below hb
  go_upto_region 10 with (fail)
  apply wp_region_lit
  ((with_reducible apply wl_rowG); exact rfl; exact rfl; exact rowIv h0)
  ((with_reducible apply wl_rowG); exact rfl; exact rfl; exact rowIv h1)
  refine wl_ck rfl (fun K hK => ?_); go_simp; refine ⟨_, _, ⟨rfl, rfl⟩, hK _ _ ⟨_, PartedI_any x y _ _ _ _ _ ix iy (by omega) (by omega) HZ.out, ?_⟩⟩; clear hK K; rintro e w1 ⟨A2, c2, A3, c3, rfl, i2, i3, hb1⟩; refine ⟨_, rfl, ?_⟩; simp only [put_lit, List.set_cons_zero, List.set_cons_succ]
  replace h2 := below_look hb1 h2; replace hb := hb.trans (hb1.mono hb.size); clear hb1
  refine wl_k rfl (fun K hK => ?_); go_simp; refine hK _ ?_; clear hK K
  refine wl_k rfl (fun K hK => ?_); go_simp; refine hK _ ?_; clear hK K
  refine wl_k rfl (fun K hK => ?_); go_simp; refine hK _ ?_; clear hK K
  (have lth2p11 := heap_lt h2; have lsp11 := hb.size; (with_reducible apply wl_new84); intro w2 p11 hbn hlp11 hp11; replace h2 := below_look hbn h2; replace i2 := i2.below hbn; replace i3 := i3.below hbn; replace hb := hb.trans (hbn.mono hb.size); clear hbn)
  (have lth2p12 := heap_lt h2; have lthp11p12 := heap_lt hp11; have lsp12 := hb.size; (with_reducible apply wl_new84); intro w3 p12 hbn hlp12 hp12; replace h2 := below_look hbn h2; replace hp11 := below_look hbn hp11; replace i2 := i2.below hbn; replace i3 := i3.below hbn; replace hb := hb.trans (hbn.mono hb.size); clear hbn)
  ((with_reducible apply wl_putI); exact rfl; exact rfl; exact hp11; intro w4 hbx hk hq hi; replace h2 := hk _ _ (by omega) h2; replace hp12 := hk _ _ (by omega) hp12; replace i2 := hi _ _ _ i2; replace i3 := hi _ _ _ i3; replace hb := hbx _ _ (by omega) hb; clear hp11; have hp11 := hq; clear hbx hk hq hi)
  ((with_reducible apply wl_putI); exact rfl; exact rfl; exact hp12; intro w5 hbx hk hq hi; replace h2 := hk _ _ (by omega) h2; replace hp11 := hk _ _ (by omega) hp11; replace i2 := hi _ _ _ i2; replace i3 := hi _ _ _ i3; replace hb := hbx _ _ (by omega) hb; clear hp12; have hp12 := hq; clear hbx hk hq hi)
  go_upto_region 13 with (fail)
  apply wp_region_lit
  ((with_reducible apply wl_rowG); exact rfl; exact rfl; exact rowIv hp12)
  ((with_reducible apply wl_putI); exact rfl; exact rfl; exact h2; intro w6 hbx hk hq hi; replace i2 := hi _ _ _ i2; replace i3 := hi _ _ _ i3; replace hb := hbx _ _ (by omega) hb; clear h2; have h2 := hq; clear hbx hk hq hi)
  go_wp2_with fail
  exact bodyPost_ret (res_iv rfl _ _ (w.heap.size + 1 + 1) rfl h2) rfl ⟨_, _, rfl, i3, hb⟩
set_option maxHeartbeats 1000000 in
set_option maxRecDepth 100000 in
theorem exactI_shl (op : ByteArray) (n : Int) (s : Bool) (x y : Int) (A A' : Option Addr) (c c' : Nat) (hop : op.data.toList = [60, 60]) (hx : x.natAbs ≤ 18446744073709551616) (hy : y.natAbs ≤ 18446744073709551616) (y0 : 0 ≤ y) (y1 : y ≤ 64) (w : World) (hI : IvAt w x A c) (hJ : IvAt w y A' c') :
    Calls Try.prog 70 #[.string op, .agg (iv x A c), .agg (iv y A' c'), .int .i64 n, .bool s] w fun e w' => ∃ A2 c2, e = .returned (.agg (iv (x * t2 y) A2 c2)) ∧ IvAt w' (x * t2 y) A2 c2 ∧ Below w.heap.size w w' := by
  have HX := Lib.hid hI
  have HY := Lib.hid hJ
  have nx := nl_3 hx
  have ny := nl_3 hy
  clear hI hJ
  have l1 := lit_eq hop (l := [43]) rfl
  have l2 := lit_eq hop (l := [45]) rfl
  have l3 := lit_eq hop (l := [42]) rfl
  have l4 := lit_eq hop (l := [47]) rfl
  have l5 := lit_eq hop (l := [37]) rfl
  have l6 := lit_eq hop (l := [60, 60]) rfl
  clear hop hx hy
  go_enter Try.func70, Try.ntmps70
  go_upto_region 1 with (fail)
  refine wp_world (fun W => W.heap[w.heap.size]? = some (.cells (iv x A c) 84 (0, 0)) ∧ W.heap[w.heap.size + 1]? = some (.cells (iv y A' c') 84 (0, 0)) ∧ W.heap[w.heap.size + 1 + 1]? = some (.cells (iv 0 none 0) 84 (0, 0)) ∧ Below w.heap.size w W) ⟨ha_old (ha_old (ha_new rfl)), ha_old (ha_new (by simp)), by rw [iv_zero]; exact ha_new (by simp), (((Below.refl _ _).alloc (Nat.le_refl _) _).alloc (by simp) _).alloc (by simp; omega) _⟩ ?_
  rintro W ⟨h0, h1, h2, hb⟩
  have ix := HX.out.below hb
  have iy := HY.out.below hb
  go_upto_region 16 with (fail)
  apply wp_region_lit
  ((with_reducible apply wl_rowG); exact rfl; exact rfl; exact rowIv h1)
  refine wl_ck rfl (fun K hK => ?_); go_simp; refine ⟨_, _, ⟨rfl, rfl⟩, hK _ _ ⟨_, smallI_under y 64 A' c' _ (by decide) (by decide) iy (by omega) (by omega), ?_⟩⟩; clear hK K; rintro e w1 ⟨rfl, hb1⟩; refine ⟨_, rfl, ?_⟩; simp only [put_lit, List.set_cons_zero, List.set_cons_succ]
  replace h0 := below_look hb1 h0; replace h2 := below_look hb1 h2; replace ix := ix.below hb1; replace hb := hb.trans (hb1.mono hb.size); clear hb1
  clear iy
  go_upto_region 18 with (fail)
  replace ix := ix.below (Below.refl _ _).drew
  replace hb := hb.drew
  have L2 := heap_lt h2
  have LW := hb.size
  refine wp_region_held_drew (S := Kept [w.heap.size + 1 + 1] w1) mixed (Kept.drew [w.heap.size + 1 + 1] w1) (fun hS => ?_)
  refine ha_val (i := 0) rfl (by kernel_rfl) (by kernel_rfl) (by kernel_rfl) (fun _ _ _ h => h) hS rfl (fun w' hw' => ex_row rfl (rowIv (hw'.look h0 (by simp <;> omega)))) ?_; try simp only [put_lit, List.set_cons_zero, List.set_cons_succ]
  refine ha_k (i := 1) rfl (by kernel_rfl) (by kernel_rfl) (by kernel_rfl) (fun _ _ _ _ h => h) hS rfl (fun K hK => ?_); go_simp; refine hK _ ?_; clear hK K; try simp only [put_lit, List.set_cons_zero, List.set_cons_succ]
  refine ha_call (i := 2) (by kernel_rfl) rfl rfl (fun K hK => ?_); go_simp; refine ⟨_, _, ⟨rfl, rfl⟩, hK _ _ ⟨_, PowerT_any y y0 y1 _, ?_⟩⟩; clear hK K; rintro e w2 ⟨B1, d1, rfl, j1, hb1⟩; refine ⟨_, rfl, hS.below hb1, ?_⟩; replace hS := hS.below hb1; replace h0 := below_look hb1 h0; replace h2 := below_look hb1 h2; replace ix := ix.below hb1; replace hb := hb.trans (hb1.mono hb.size); clear hb1; try simp only [put_lit, List.set_cons_zero, List.set_cons_succ]
  refine ha_call (i := 3) (by kernel_rfl) rfl rfl (fun K hK => ?_); go_simp; refine ⟨_, _, ⟨rfl, rfl⟩, hK _ _ ⟨_, TimesI_any x (t2 y) _ _ _ _ _ ix j1 (by omega) (by have := nl_t2 (x := y) y1; omega), ?_⟩⟩; clear hK K; rintro e w3 ⟨B2, d2, rfl, j2, hb1⟩; refine ⟨_, rfl, hS.below hb1, ?_⟩; replace hS := hS.below hb1; replace h0 := below_look hb1 h0; replace h2 := below_look hb1 h2; replace hb := hb.trans (hb1.mono hb.size); clear hb1; try simp only [put_lit, List.set_cons_zero, List.set_cons_succ]
  refine ha_store (i := 4) (by kernel_rfl) rfl rfl 84 _ _ rfl _ (iv (x * t2 y) B2 d2) rfl rfl 84 _ h2 info84 rfl (iv_one _ _ _) (hS.setRow (by simp) _) (fun hS => ?_); try simp only [put_lit, List.set_cons_zero, List.set_cons_succ]
  refine wpAnyH_done (by kernel_rfl) ?_ _
  replace hb := below_setRow hb (g := w.heap.size + 1 + 1) (by omega) (iv (x * t2 y) B2 d2)
  replace j2 := j2.put h2 (iv (x * t2 y) B2 d2)
  replace h2 := hr_new (cs := iv (x * t2 y) B2 d2) h2
  go_wp2_with fail
  exact bodyPost_ret (res_iv rfl _ _ (w.heap.size + 1 + 1) rfl h2) rfl ⟨_, _, rfl, j2, hb⟩
set_option maxHeartbeats 40000000 in
set_option maxRecDepth 100000 in
theorem exactI_shr (op : ByteArray) (n : Int) (s : Bool) (x y : Int) (A A' : Option Addr) (c c' : Nat) (hop : op.data.toList = [62, 62]) (hx : x.natAbs ≤ 18446744073709551616) (hy : y.natAbs ≤ 18446744073709551616) (y0 : 0 ≤ y) (y1 : y ≤ 64) (w : World) (hI : IvAt w x A c) (hJ : IvAt w y A' c') :
    Calls Try.prog 70 #[.string op, .agg (iv x A c), .agg (iv y A' c'), .int .i64 n, .bool s] w fun e w' => ∃ A2 c2, e = .returned (.agg (iv (x / t2 y) A2 c2)) ∧ IvAt w' (x / t2 y) A2 c2 ∧ Below w.heap.size w w' := by
  have HX := Lib.hid hI
  have HY := Lib.hid hJ
  have nx := nl_3 hx
  have ny := nl_3 hy
  clear hI hJ
  have l1 := lit_eq hop (l := [43]) rfl
  have l2 := lit_eq hop (l := [45]) rfl
  have l3 := lit_eq hop (l := [42]) rfl
  have l4 := lit_eq hop (l := [47]) rfl
  have l5 := lit_eq hop (l := [37]) rfl
  have l6 := lit_eq hop (l := [60, 60]) rfl
  have l7 := lit_eq hop (l := [62, 62]) rfl
  clear hop hx hy
  go_enter Try.func70, Try.ntmps70
  go_upto_region 1 with (fail)
  refine wp_world (fun W => W.heap[w.heap.size]? = some (.cells (iv x A c) 84 (0, 0)) ∧ W.heap[w.heap.size + 1]? = some (.cells (iv y A' c') 84 (0, 0)) ∧ W.heap[w.heap.size + 1 + 1]? = some (.cells (iv 0 none 0) 84 (0, 0)) ∧ Below w.heap.size w W) ⟨ha_old (ha_old (ha_new rfl)), ha_old (ha_new (by simp)), by rw [iv_zero]; exact ha_new (by simp), (((Below.refl _ _).alloc (Nat.le_refl _) _).alloc (by simp) _).alloc (by simp; omega) _⟩ ?_
  rintro W ⟨h0, h1, h2, hb⟩
  have ix := HX.out.below hb
  have iy := HY.out.below hb
  go_upto_region 16 with (fail)
  apply wp_region_lit
  ((with_reducible apply wl_rowG); exact rfl; exact rfl; exact rowIv h1)
  refine wl_ck rfl (fun K hK => ?_); go_simp; refine ⟨_, _, ⟨rfl, rfl⟩, hK _ _ ⟨_, smallI_under y 64 A' c' _ (by decide) (by decide) iy (by omega) (by omega), ?_⟩⟩; clear hK K; rintro e w1 ⟨rfl, hb1⟩; refine ⟨_, rfl, ?_⟩; simp only [put_lit, List.set_cons_zero, List.set_cons_succ]
  replace h0 := below_look hb1 h0; replace h2 := below_look hb1 h2; replace ix := ix.below hb1; replace hb := hb.trans (hb1.mono hb.size); clear hb1
  clear iy
  go_upto_region 19 with (fail)
  have L2 := heap_lt h2
  have L0 := heap_lt h0
  have L4 := hb.size
  rename_i K hK
  have tail : ∀ (p15 : Nat) (B2 : Option Addr) (d2 : Nat) (t2q t5 t7 t8 t9 t11 t12 t13 t14 t16 t17 t18 t19 t20 t21 t22 t23 t24 t25 t26 t27 t28 t29 t30 t31 t32 t33 t34 t35 t36 t37 t38 t39 t40 t41 t42 t43 t44 t45 t46 t47 t48 t49 t50 t51 t52 t53 t54 t55 t56 t57 t58 t59 t60 t61 t62 t63 t64 t65 t66 t67 t68 t69 t70 t71 t72 t73 t74 t75 t76 t77 t78 t79 t80 t81 t82 t83 t84 t85 t86 t87 t88 t89 t90 t91 t92 t93 t94 t95 t96 t97 t98 t99 t100 t101 t102 t103 t104 t105 t106 t107 t108 t109 t110 t111 t112 t113 t114 t115 t116 t117 t118 t119 t120 t121 t122 t123 t124 t125 : Value) (wz : World), w.heap.size + 1 + 1 < p15 → wz.heap[p15]? = some (.cells (iv (x / t2 y) B2 d2) 84 (0, 0)) → wz.heap[w.heap.size + 1 + 1]? = some (.cells (iv 0 none 0) 84 (0, 0)) → IvAt wz (x / t2 y) B2 d2 → Below w.heap.size w wz →
      K ⟨#[.string op, .agg (iv x A c), t2q, .int .i64 n, .bool s, t5, .pointer (some ⟨w.heap.size, 0, none⟩), t7, t8, t9, .pointer (some ⟨w.heap.size + 1 + 1, 0, none⟩), t11, t12, t13, t14, .pointer (some ⟨p15, 0, none⟩), t16, t17, t18, t19, t20, t21, t22, t23, t24, t25, t26, t27, t28, t29, t30, t31, t32, t33, t34, t35, t36, t37, t38, t39, t40, t41, t42, t43, t44, t45, t46, t47, t48, t49, t50, t51, t52, t53, t54, t55, t56, t57, t58, t59, t60, t61, t62, t63, t64, t65, t66, t67, t68, t69, t70, t71, t72, t73, t74, t75, t76, t77, t78, t79, t80, t81, t82, t83, t84, t85, t86, t87, t88, t89, t90, t91, t92, t93, t94, t95, t96, t97, t98, t99, t100, t101, t102, t103, t104, t105, t106, t107, t108, t109, t110, t111, t112, t113, t114, t115, t116, t117, t118, t119, t120, t121, t122, t123, t124, t125], []⟩ wz := by
    intro p15 B2 d2 t2q t5 t7 t8 t9 t11 t12 t13 t14 t16 t17 t18 t19 t20 t21 t22 t23 t24 t25 t26 t27 t28 t29 t30 t31 t32 t33 t34 t35 t36 t37 t38 t39 t40 t41 t42 t43 t44 t45 t46 t47 t48 t49 t50 t51 t52 t53 t54 t55 t56 t57 t58 t59 t60 t61 t62 t63 t64 t65 t66 t67 t68 t69 t70 t71 t72 t73 t74 t75 t76 t77 t78 t79 t80 t81 t82 t83 t84 t85 t86 t87 t88 t89 t90 t91 t92 t93 t94 t95 t96 t97 t98 t99 t100 t101 t102 t103 t104 t105 t106 t107 t108 t109 t110 t111 t112 t113 t114 t115 t116 t117 t118 t119 t120 t121 t122 t123 t124 t125 wz g1 hp15 k2 j2 kb
    apply hK
    clear hK L0 L2 L4 h0 h2 ix hb
    have h2 := k2
    have hb := kb
    clear k2 kb
    go_upto_region 20 with (fail)
    apply wp_region_lit
    ((with_reducible apply wl_rowG); exact rfl; exact rfl; exact rowIv hp15)
    ((with_reducible apply wl_putI); exact rfl; exact rfl; exact h2; intro v6 hbx hk hq hi; replace j2 := hi _ _ _ j2; replace hb := hbx _ _ (by omega) hb; clear h2; have h2 := hq; clear hbx hk hq hi)
    go_wp2_with fail
    exact bodyPost_ret (res_iv rfl _ _ (w.heap.size + 1 + 1) rfl h2) rfl ⟨_, _, rfl, j2, hb⟩
  clear hK
  replace ix := ix.below (Below.refl _ _).drew
  replace hb := hb.drew
  refine wp_region_held_drew (S := Kept [] w1) mixed (Kept.drew [] w1) (fun hS => ?_)
  refine ha_val (i := 0) rfl (by kernel_rfl) (by kernel_rfl) (by kernel_rfl) (fun _ _ _ h => h) hS rfl (fun w' hw' => ex_row rfl (rowIv (hw'.look h0 (by simp <;> omega)))) ?_; try simp only [put_lit, List.set_cons_zero, List.set_cons_succ]
  refine ha_k (i := 1) rfl (by kernel_rfl) (by kernel_rfl) (by kernel_rfl) (fun _ _ _ _ h => h) hS rfl (fun K hK => ?_); go_simp; refine hK _ ?_; clear hK K; try simp only [put_lit, List.set_cons_zero, List.set_cons_succ]
  refine ha_three (i := 2) (j := 7) (k := 8) (by kernel_rfl) ?_ ?_ ?_
  · refine sh_call (i := 2) rfl rfl (fun K hK => ?_); go_simp; refine ⟨_, _, ⟨rfl, rfl⟩, hK _ _ ⟨_, PowerT_any y y0 y1 _, ?_⟩⟩; clear hK K; rintro e w20 ⟨B1, d1, rfl, j1, hb1⟩; refine ⟨_, rfl, hS.below hb1, ?_⟩; replace hS := hS.below hb1; replace h0 := below_look hb1 h0; replace h2 := below_look hb1 h2; replace ix := ix.below hb1; replace hb := hb.trans (hb1.mono hb.size); clear hb1; try simp only [put_lit, List.set_cons_zero, List.set_cons_succ]
    refine ha_three (i := 3) (j := 7) (k := 8) (by kernel_rfl) ?_ ?_ ?_
    · refine sh_call (i := 3) rfl rfl (fun K hK => ?_); go_simp; refine ⟨_, _, ⟨rfl, rfl⟩, hK _ _ ⟨_, FloorI_any x (t2 y) _ _ _ _ _ ix j1 (by omega) (by have := nl_t2 (x := y) y1; omega) (t2_pos y), ?_⟩⟩; clear hK K; rintro e w21 ⟨B2, d2, B3, d3, rfl, j2, j3, hb1⟩; refine ⟨_, rfl, hS.below hb1, ?_⟩; replace hS := hS.below hb1; replace h0 := below_look hb1 h0; replace h2 := below_look hb1 h2; replace ix := ix.below hb1; replace hb := hb.trans (hb1.mono hb.size); clear hb1; try simp only [put_lit, List.set_cons_zero, List.set_cons_succ]
      refine ha_k (i := 4) rfl (by kernel_rfl) (by kernel_rfl) (by kernel_rfl) (fun _ _ _ _ h => h) hS rfl (fun K hK => ?_); go_simp; refine hK _ ?_; clear hK K; try simp only [put_lit, List.set_cons_zero, List.set_cons_succ]
      refine ha_k (i := 5) rfl (by kernel_rfl) (by kernel_rfl) (by kernel_rfl) (fun _ _ _ _ h => h) hS rfl (fun K hK => ?_); go_simp; refine hK _ ?_; clear hK K; try simp only [put_lit, List.set_cons_zero, List.set_cons_succ]
      refine ha_k (i := 6) rfl (by kernel_rfl) (by kernel_rfl) (by kernel_rfl) (fun _ _ _ _ h => h) hS rfl (fun K hK => ?_); go_simp; refine hK _ ?_; clear hK K; try simp only [put_lit, List.set_cons_zero, List.set_cons_succ]
      refine ha_two (i := 7) (j := 8) (by kernel_rfl) ?_ ?_
      · refine sh_mk (i := 7) rfl rfl (fun ev w' => ex_alloc84i rfl ev w') hS (fun w22 p15 hb1 hLp15 hlp15 hp15 hS => ?_); replace h0 := below_look hb1 h0; replace h2 := below_look hb1 h2; replace ix := ix.below hb1; replace j2 := j2.below hb1; replace j3 := j3.below hb1; replace hb := hb.trans (hb1.mono hb.size); clear hb1; try simp only [put_lit, List.set_cons_zero, List.set_cons_succ]
        have ltp15p16 := heap_lt hp15
        refine ha_mk (i := 8) (by kernel_rfl) rfl rfl (fun ev w' => ex_alloc84i rfl ev w') hS (fun w23 p16 hb1 hLp16 hlp16 hp16 hS => ?_); replace h0 := below_look hb1 h0; replace h2 := below_look hb1 h2; replace hp15 := below_look hb1 hp15; replace ix := ix.below hb1; replace j2 := j2.below hb1; replace j3 := j3.below hb1; replace hb := hb.trans (hb1.mono hb.size); clear hb1; try simp only [put_lit, List.set_cons_zero, List.set_cons_succ]
        refine ha_store (i := 9) (by kernel_rfl) rfl rfl 84 _ _ rfl _ (iv (x / t2 y) B2 d2) rfl rfl 84 _ hp15 info84 rfl (iv_one _ _ _) (hS.setNew (by omega) _) (fun hS => ?_); try simp only [put_lit, List.set_cons_zero, List.set_cons_succ]
        replace hb := below_setRow hb (g := p15) (by omega) (iv (x / t2 y) B2 d2); replace h0 := hr_old (g := p15) (cs := iv (x / t2 y) B2 d2) h0 (by omega); replace h2 := hr_old (g := p15) (cs := iv (x / t2 y) B2 d2) h2 (by omega); replace hp16 := hr_old (g := p15) (cs := iv (x / t2 y) B2 d2) hp16 (by omega); replace ix := ix.put hp15 (iv (x / t2 y) B2 d2); replace j2 := j2.put hp15 (iv (x / t2 y) B2 d2); replace j3 := j3.put hp15 (iv (x / t2 y) B2 d2); replace hp15 := hr_new (cs := iv (x / t2 y) B2 d2) hp15
        refine ha_store (i := 10) (by kernel_rfl) rfl rfl 84 _ _ rfl _ (iv (x % t2 y) B3 d3) rfl rfl 84 _ hp16 info84 rfl (iv_one _ _ _) (hS.setNew (by omega) _) (fun hS => ?_); try simp only [put_lit, List.set_cons_zero, List.set_cons_succ]
        refine wpAnyH_done (by kernel_rfl) ?_ _
        replace hb := below_setRow hb (g := p16) (by omega) (iv (x % t2 y) B3 d3); replace h0 := hr_old (g := p16) (cs := iv (x % t2 y) B3 d3) h0 (by omega); replace h2 := hr_old (g := p16) (cs := iv (x % t2 y) B3 d3) h2 (by omega); replace hp15 := hr_old (g := p16) (cs := iv (x % t2 y) B3 d3) hp15 (by omega); replace ix := ix.put hp16 (iv (x % t2 y) B3 d3); replace j2 := j2.put hp16 (iv (x % t2 y) B3 d3); replace j3 := j3.put hp16 (iv (x % t2 y) B3 d3); replace hp16 := hr_new (cs := iv (x % t2 y) B3 d3) hp16
        exact tail p15 B2 d2 _ _ _ _ _ _ _ _ _ _ _ _ _ _ _ _ _ _ _ _ _ _ _ _ _ _ _ _ _ _ _ _ _ _ _ _ _ _ _ _ _ _ _ _ _ _ _ _ _ _ _ _ _ _ _ _ _ _ _ _ _ _ _ _ _ _ _ _ _ _ _ _ _ _ _ _ _ _ _ _ _ _ _ _ _ _ _ _ _ _ _ _ _ _ _ _ _ _ _ _ _ _ _ _ _ _ _ _ _ _ _ _ _ _ _ _ _ _ _ _ (by omega) hp15 h2 j2 hb
      · refine sh_mk (i := 8) rfl rfl (fun ev w' => ex_alloc84i rfl ev w') hS (fun w22 p16 hb1 hLp16 hlp16 hp16 hS => ?_); replace h0 := below_look hb1 h0; replace h2 := below_look hb1 h2; replace ix := ix.below hb1; replace j2 := j2.below hb1; replace j3 := j3.below hb1; replace hb := hb.trans (hb1.mono hb.size); clear hb1; try simp only [put_lit, List.set_cons_zero, List.set_cons_succ]
        have ltp16p15 := heap_lt hp16
        refine ha_mk (i := 7) (by kernel_rfl) rfl rfl (fun ev w' => ex_alloc84i rfl ev w') hS (fun w23 p15 hb1 hLp15 hlp15 hp15 hS => ?_); replace h0 := below_look hb1 h0; replace h2 := below_look hb1 h2; replace hp16 := below_look hb1 hp16; replace ix := ix.below hb1; replace j2 := j2.below hb1; replace j3 := j3.below hb1; replace hb := hb.trans (hb1.mono hb.size); clear hb1; try simp only [put_lit, List.set_cons_zero, List.set_cons_succ]
        refine ha_store (i := 9) (by kernel_rfl) rfl rfl 84 _ _ rfl _ (iv (x / t2 y) B2 d2) rfl rfl 84 _ hp15 info84 rfl (iv_one _ _ _) (hS.setNew (by omega) _) (fun hS => ?_); try simp only [put_lit, List.set_cons_zero, List.set_cons_succ]
        replace hb := below_setRow hb (g := p15) (by omega) (iv (x / t2 y) B2 d2); replace h0 := hr_old (g := p15) (cs := iv (x / t2 y) B2 d2) h0 (by omega); replace h2 := hr_old (g := p15) (cs := iv (x / t2 y) B2 d2) h2 (by omega); replace hp16 := hr_old (g := p15) (cs := iv (x / t2 y) B2 d2) hp16 (by omega); replace ix := ix.put hp15 (iv (x / t2 y) B2 d2); replace j2 := j2.put hp15 (iv (x / t2 y) B2 d2); replace j3 := j3.put hp15 (iv (x / t2 y) B2 d2); replace hp15 := hr_new (cs := iv (x / t2 y) B2 d2) hp15
        refine ha_store (i := 10) (by kernel_rfl) rfl rfl 84 _ _ rfl _ (iv (x % t2 y) B3 d3) rfl rfl 84 _ hp16 info84 rfl (iv_one _ _ _) (hS.setNew (by omega) _) (fun hS => ?_); try simp only [put_lit, List.set_cons_zero, List.set_cons_succ]
        refine wpAnyH_done (by kernel_rfl) ?_ _
        replace hb := below_setRow hb (g := p16) (by omega) (iv (x % t2 y) B3 d3); replace h0 := hr_old (g := p16) (cs := iv (x % t2 y) B3 d3) h0 (by omega); replace h2 := hr_old (g := p16) (cs := iv (x % t2 y) B3 d3) h2 (by omega); replace hp15 := hr_old (g := p16) (cs := iv (x % t2 y) B3 d3) hp15 (by omega); replace ix := ix.put hp16 (iv (x % t2 y) B3 d3); replace j2 := j2.put hp16 (iv (x % t2 y) B3 d3); replace j3 := j3.put hp16 (iv (x % t2 y) B3 d3); replace hp16 := hr_new (cs := iv (x % t2 y) B3 d3) hp16
        exact tail p15 B2 d2 _ _ _ _ _ _ _ _ _ _ _ _ _ _ _ _ _ _ _ _ _ _ _ _ _ _ _ _ _ _ _ _ _ _ _ _ _ _ _ _ _ _ _ _ _ _ _ _ _ _ _ _ _ _ _ _ _ _ _ _ _ _ _ _ _ _ _ _ _ _ _ _ _ _ _ _ _ _ _ _ _ _ _ _ _ _ _ _ _ _ _ _ _ _ _ _ _ _ _ _ _ _ _ _ _ _ _ _ _ _ _ _ _ _ _ _ _ _ _ _ (by omega) hp15 h2 j2 hb
    · refine sh_mk (i := 7) rfl rfl (fun ev w' => ex_alloc84i rfl ev w') hS (fun w21 p15 hb1 hLp15 hlp15 hp15 hS => ?_); replace h0 := below_look hb1 h0; replace h2 := below_look hb1 h2; replace ix := ix.below hb1; replace j1 := j1.below hb1; replace hb := hb.trans (hb1.mono hb.size); clear hb1; try simp only [put_lit, List.set_cons_zero, List.set_cons_succ]
      refine ha_two (i := 3) (j := 8) (by kernel_rfl) ?_ ?_
      · refine sh_call (i := 3) rfl rfl (fun K hK => ?_); go_simp; refine ⟨_, _, ⟨rfl, rfl⟩, hK _ _ ⟨_, FloorI_any x (t2 y) _ _ _ _ _ ix j1 (by omega) (by have := nl_t2 (x := y) y1; omega) (t2_pos y), ?_⟩⟩; clear hK K; rintro e w22 ⟨B2, d2, B3, d3, rfl, j2, j3, hb1⟩; refine ⟨_, rfl, hS.below hb1, ?_⟩; replace hS := hS.below hb1; replace h0 := below_look hb1 h0; replace h2 := below_look hb1 h2; replace hp15 := below_look hb1 hp15; replace ix := ix.below hb1; replace hb := hb.trans (hb1.mono hb.size); clear hb1; try simp only [put_lit, List.set_cons_zero, List.set_cons_succ]
        refine ha_k (i := 4) rfl (by kernel_rfl) (by kernel_rfl) (by kernel_rfl) (fun _ _ _ _ h => h) hS rfl (fun K hK => ?_); go_simp; refine hK _ ?_; clear hK K; try simp only [put_lit, List.set_cons_zero, List.set_cons_succ]
        refine ha_k (i := 5) rfl (by kernel_rfl) (by kernel_rfl) (by kernel_rfl) (fun _ _ _ _ h => h) hS rfl (fun K hK => ?_); go_simp; refine hK _ ?_; clear hK K; try simp only [put_lit, List.set_cons_zero, List.set_cons_succ]
        refine ha_k (i := 6) rfl (by kernel_rfl) (by kernel_rfl) (by kernel_rfl) (fun _ _ _ _ h => h) hS rfl (fun K hK => ?_); go_simp; refine hK _ ?_; clear hK K; try simp only [put_lit, List.set_cons_zero, List.set_cons_succ]
        have ltp15p16 := heap_lt hp15
        refine ha_mk (i := 8) (by kernel_rfl) rfl rfl (fun ev w' => ex_alloc84i rfl ev w') hS (fun w23 p16 hb1 hLp16 hlp16 hp16 hS => ?_); replace h0 := below_look hb1 h0; replace h2 := below_look hb1 h2; replace hp15 := below_look hb1 hp15; replace ix := ix.below hb1; replace j2 := j2.below hb1; replace j3 := j3.below hb1; replace hb := hb.trans (hb1.mono hb.size); clear hb1; try simp only [put_lit, List.set_cons_zero, List.set_cons_succ]
        refine ha_store (i := 9) (by kernel_rfl) rfl rfl 84 _ _ rfl _ (iv (x / t2 y) B2 d2) rfl rfl 84 _ hp15 info84 rfl (iv_one _ _ _) (hS.setNew (by omega) _) (fun hS => ?_); try simp only [put_lit, List.set_cons_zero, List.set_cons_succ]
        replace hb := below_setRow hb (g := p15) (by omega) (iv (x / t2 y) B2 d2); replace h0 := hr_old (g := p15) (cs := iv (x / t2 y) B2 d2) h0 (by omega); replace h2 := hr_old (g := p15) (cs := iv (x / t2 y) B2 d2) h2 (by omega); replace hp16 := hr_old (g := p15) (cs := iv (x / t2 y) B2 d2) hp16 (by omega); replace ix := ix.put hp15 (iv (x / t2 y) B2 d2); replace j2 := j2.put hp15 (iv (x / t2 y) B2 d2); replace j3 := j3.put hp15 (iv (x / t2 y) B2 d2); replace hp15 := hr_new (cs := iv (x / t2 y) B2 d2) hp15
        refine ha_store (i := 10) (by kernel_rfl) rfl rfl 84 _ _ rfl _ (iv (x % t2 y) B3 d3) rfl rfl 84 _ hp16 info84 rfl (iv_one _ _ _) (hS.setNew (by omega) _) (fun hS => ?_); try simp only [put_lit, List.set_cons_zero, List.set_cons_succ]
        refine wpAnyH_done (by kernel_rfl) ?_ _
        replace hb := below_setRow hb (g := p16) (by omega) (iv (x % t2 y) B3 d3); replace h0 := hr_old (g := p16) (cs := iv (x % t2 y) B3 d3) h0 (by omega); replace h2 := hr_old (g := p16) (cs := iv (x % t2 y) B3 d3) h2 (by omega); replace hp15 := hr_old (g := p16) (cs := iv (x % t2 y) B3 d3) hp15 (by omega); replace ix := ix.put hp16 (iv (x % t2 y) B3 d3); replace j2 := j2.put hp16 (iv (x % t2 y) B3 d3); replace j3 := j3.put hp16 (iv (x % t2 y) B3 d3); replace hp16 := hr_new (cs := iv (x % t2 y) B3 d3) hp16
        exact tail p15 B2 d2 _ _ _ _ _ _ _ _ _ _ _ _ _ _ _ _ _ _ _ _ _ _ _ _ _ _ _ _ _ _ _ _ _ _ _ _ _ _ _ _ _ _ _ _ _ _ _ _ _ _ _ _ _ _ _ _ _ _ _ _ _ _ _ _ _ _ _ _ _ _ _ _ _ _ _ _ _ _ _ _ _ _ _ _ _ _ _ _ _ _ _ _ _ _ _ _ _ _ _ _ _ _ _ _ _ _ _ _ _ _ _ _ _ _ _ _ _ _ _ _ (by omega) hp15 h2 j2 hb
      · have ltp15p16 := heap_lt hp15
        refine sh_mk (i := 8) rfl rfl (fun ev w' => ex_alloc84i rfl ev w') hS (fun w22 p16 hb1 hLp16 hlp16 hp16 hS => ?_); replace h0 := below_look hb1 h0; replace h2 := below_look hb1 h2; replace hp15 := below_look hb1 hp15; replace ix := ix.below hb1; replace j1 := j1.below hb1; replace hb := hb.trans (hb1.mono hb.size); clear hb1; try simp only [put_lit, List.set_cons_zero, List.set_cons_succ]
        refine ha_call (i := 3) (by kernel_rfl) rfl rfl (fun K hK => ?_); go_simp; refine ⟨_, _, ⟨rfl, rfl⟩, hK _ _ ⟨_, FloorI_any x (t2 y) _ _ _ _ _ ix j1 (by omega) (by have := nl_t2 (x := y) y1; omega) (t2_pos y), ?_⟩⟩; clear hK K; rintro e w23 ⟨B2, d2, B3, d3, rfl, j2, j3, hb1⟩; refine ⟨_, rfl, hS.below hb1, ?_⟩; replace hS := hS.below hb1; replace h0 := below_look hb1 h0; replace h2 := below_look hb1 h2; replace hp15 := below_look hb1 hp15; replace hp16 := below_look hb1 hp16; replace ix := ix.below hb1; replace hb := hb.trans (hb1.mono hb.size); clear hb1; try simp only [put_lit, List.set_cons_zero, List.set_cons_succ]
        refine ha_k (i := 4) rfl (by kernel_rfl) (by kernel_rfl) (by kernel_rfl) (fun _ _ _ _ h => h) hS rfl (fun K hK => ?_); go_simp; refine hK _ ?_; clear hK K; try simp only [put_lit, List.set_cons_zero, List.set_cons_succ]
        refine ha_k (i := 5) rfl (by kernel_rfl) (by kernel_rfl) (by kernel_rfl) (fun _ _ _ _ h => h) hS rfl (fun K hK => ?_); go_simp; refine hK _ ?_; clear hK K; try simp only [put_lit, List.set_cons_zero, List.set_cons_succ]
        refine ha_k (i := 6) rfl (by kernel_rfl) (by kernel_rfl) (by kernel_rfl) (fun _ _ _ _ h => h) hS rfl (fun K hK => ?_); go_simp; refine hK _ ?_; clear hK K; try simp only [put_lit, List.set_cons_zero, List.set_cons_succ]
        refine ha_store (i := 9) (by kernel_rfl) rfl rfl 84 _ _ rfl _ (iv (x / t2 y) B2 d2) rfl rfl 84 _ hp15 info84 rfl (iv_one _ _ _) (hS.setNew (by omega) _) (fun hS => ?_); try simp only [put_lit, List.set_cons_zero, List.set_cons_succ]
        replace hb := below_setRow hb (g := p15) (by omega) (iv (x / t2 y) B2 d2); replace h0 := hr_old (g := p15) (cs := iv (x / t2 y) B2 d2) h0 (by omega); replace h2 := hr_old (g := p15) (cs := iv (x / t2 y) B2 d2) h2 (by omega); replace hp16 := hr_old (g := p15) (cs := iv (x / t2 y) B2 d2) hp16 (by omega); replace ix := ix.put hp15 (iv (x / t2 y) B2 d2); replace j2 := j2.put hp15 (iv (x / t2 y) B2 d2); replace j3 := j3.put hp15 (iv (x / t2 y) B2 d2); replace hp15 := hr_new (cs := iv (x / t2 y) B2 d2) hp15
        refine ha_store (i := 10) (by kernel_rfl) rfl rfl 84 _ _ rfl _ (iv (x % t2 y) B3 d3) rfl rfl 84 _ hp16 info84 rfl (iv_one _ _ _) (hS.setNew (by omega) _) (fun hS => ?_); try simp only [put_lit, List.set_cons_zero, List.set_cons_succ]
        refine wpAnyH_done (by kernel_rfl) ?_ _
        replace hb := below_setRow hb (g := p16) (by omega) (iv (x % t2 y) B3 d3); replace h0 := hr_old (g := p16) (cs := iv (x % t2 y) B3 d3) h0 (by omega); replace h2 := hr_old (g := p16) (cs := iv (x % t2 y) B3 d3) h2 (by omega); replace hp15 := hr_old (g := p16) (cs := iv (x % t2 y) B3 d3) hp15 (by omega); replace ix := ix.put hp16 (iv (x % t2 y) B3 d3); replace j2 := j2.put hp16 (iv (x % t2 y) B3 d3); replace j3 := j3.put hp16 (iv (x % t2 y) B3 d3); replace hp16 := hr_new (cs := iv (x % t2 y) B3 d3) hp16
        exact tail p15 B2 d2 _ _ _ _ _ _ _ _ _ _ _ _ _ _ _ _ _ _ _ _ _ _ _ _ _ _ _ _ _ _ _ _ _ _ _ _ _ _ _ _ _ _ _ _ _ _ _ _ _ _ _ _ _ _ _ _ _ _ _ _ _ _ _ _ _ _ _ _ _ _ _ _ _ _ _ _ _ _ _ _ _ _ _ _ _ _ _ _ _ _ _ _ _ _ _ _ _ _ _ _ _ _ _ _ _ _ _ _ _ _ _ _ _ _ _ _ _ _ _ _ (by omega) hp15 h2 j2 hb
    · refine sh_mk (i := 8) rfl rfl (fun ev w' => ex_alloc84i rfl ev w') hS (fun w21 p16 hb1 hLp16 hlp16 hp16 hS => ?_); replace h0 := below_look hb1 h0; replace h2 := below_look hb1 h2; replace ix := ix.below hb1; replace j1 := j1.below hb1; replace hb := hb.trans (hb1.mono hb.size); clear hb1; try simp only [put_lit, List.set_cons_zero, List.set_cons_succ]
      refine ha_two (i := 3) (j := 7) (by kernel_rfl) ?_ ?_
      · refine sh_call (i := 3) rfl rfl (fun K hK => ?_); go_simp; refine ⟨_, _, ⟨rfl, rfl⟩, hK _ _ ⟨_, FloorI_any x (t2 y) _ _ _ _ _ ix j1 (by omega) (by have := nl_t2 (x := y) y1; omega) (t2_pos y), ?_⟩⟩; clear hK K; rintro e w22 ⟨B2, d2, B3, d3, rfl, j2, j3, hb1⟩; refine ⟨_, rfl, hS.below hb1, ?_⟩; replace hS := hS.below hb1; replace h0 := below_look hb1 h0; replace h2 := below_look hb1 h2; replace hp16 := below_look hb1 hp16; replace ix := ix.below hb1; replace hb := hb.trans (hb1.mono hb.size); clear hb1; try simp only [put_lit, List.set_cons_zero, List.set_cons_succ]
        refine ha_k (i := 4) rfl (by kernel_rfl) (by kernel_rfl) (by kernel_rfl) (fun _ _ _ _ h => h) hS rfl (fun K hK => ?_); go_simp; refine hK _ ?_; clear hK K; try simp only [put_lit, List.set_cons_zero, List.set_cons_succ]
        refine ha_k (i := 5) rfl (by kernel_rfl) (by kernel_rfl) (by kernel_rfl) (fun _ _ _ _ h => h) hS rfl (fun K hK => ?_); go_simp; refine hK _ ?_; clear hK K; try simp only [put_lit, List.set_cons_zero, List.set_cons_succ]
        refine ha_k (i := 6) rfl (by kernel_rfl) (by kernel_rfl) (by kernel_rfl) (fun _ _ _ _ h => h) hS rfl (fun K hK => ?_); go_simp; refine hK _ ?_; clear hK K; try simp only [put_lit, List.set_cons_zero, List.set_cons_succ]
        have ltp16p15 := heap_lt hp16
        refine ha_mk (i := 7) (by kernel_rfl) rfl rfl (fun ev w' => ex_alloc84i rfl ev w') hS (fun w23 p15 hb1 hLp15 hlp15 hp15 hS => ?_); replace h0 := below_look hb1 h0; replace h2 := below_look hb1 h2; replace hp16 := below_look hb1 hp16; replace ix := ix.below hb1; replace j2 := j2.below hb1; replace j3 := j3.below hb1; replace hb := hb.trans (hb1.mono hb.size); clear hb1; try simp only [put_lit, List.set_cons_zero, List.set_cons_succ]
        refine ha_store (i := 9) (by kernel_rfl) rfl rfl 84 _ _ rfl _ (iv (x / t2 y) B2 d2) rfl rfl 84 _ hp15 info84 rfl (iv_one _ _ _) (hS.setNew (by omega) _) (fun hS => ?_); try simp only [put_lit, List.set_cons_zero, List.set_cons_succ]
        replace hb := below_setRow hb (g := p15) (by omega) (iv (x / t2 y) B2 d2); replace h0 := hr_old (g := p15) (cs := iv (x / t2 y) B2 d2) h0 (by omega); replace h2 := hr_old (g := p15) (cs := iv (x / t2 y) B2 d2) h2 (by omega); replace hp16 := hr_old (g := p15) (cs := iv (x / t2 y) B2 d2) hp16 (by omega); replace ix := ix.put hp15 (iv (x / t2 y) B2 d2); replace j2 := j2.put hp15 (iv (x / t2 y) B2 d2); replace j3 := j3.put hp15 (iv (x / t2 y) B2 d2); replace hp15 := hr_new (cs := iv (x / t2 y) B2 d2) hp15
        refine ha_store (i := 10) (by kernel_rfl) rfl rfl 84 _ _ rfl _ (iv (x % t2 y) B3 d3) rfl rfl 84 _ hp16 info84 rfl (iv_one _ _ _) (hS.setNew (by omega) _) (fun hS => ?_); try simp only [put_lit, List.set_cons_zero, List.set_cons_succ]
        refine wpAnyH_done (by kernel_rfl) ?_ _
        replace hb := below_setRow hb (g := p16) (by omega) (iv (x % t2 y) B3 d3); replace h0 := hr_old (g := p16) (cs := iv (x % t2 y) B3 d3) h0 (by omega); replace h2 := hr_old (g := p16) (cs := iv (x % t2 y) B3 d3) h2 (by omega); replace hp15 := hr_old (g := p16) (cs := iv (x % t2 y) B3 d3) hp15 (by omega); replace ix := ix.put hp16 (iv (x % t2 y) B3 d3); replace j2 := j2.put hp16 (iv (x % t2 y) B3 d3); replace j3 := j3.put hp16 (iv (x % t2 y) B3 d3); replace hp16 := hr_new (cs := iv (x % t2 y) B3 d3) hp16
        exact tail p15 B2 d2 _ _ _ _ _ _ _ _ _ _ _ _ _ _ _ _ _ _ _ _ _ _ _ _ _ _ _ _ _ _ _ _ _ _ _ _ _ _ _ _ _ _ _ _ _ _ _ _ _ _ _ _ _ _ _ _ _ _ _ _ _ _ _ _ _ _ _ _ _ _ _ _ _ _ _ _ _ _ _ _ _ _ _ _ _ _ _ _ _ _ _ _ _ _ _ _ _ _ _ _ _ _ _ _ _ _ _ _ _ _ _ _ _ _ _ _ _ _ _ _ (by omega) hp15 h2 j2 hb
      · have ltp16p15 := heap_lt hp16
        refine sh_mk (i := 7) rfl rfl (fun ev w' => ex_alloc84i rfl ev w') hS (fun w22 p15 hb1 hLp15 hlp15 hp15 hS => ?_); replace h0 := below_look hb1 h0; replace h2 := below_look hb1 h2; replace hp16 := below_look hb1 hp16; replace ix := ix.below hb1; replace j1 := j1.below hb1; replace hb := hb.trans (hb1.mono hb.size); clear hb1; try simp only [put_lit, List.set_cons_zero, List.set_cons_succ]
        refine ha_call (i := 3) (by kernel_rfl) rfl rfl (fun K hK => ?_); go_simp; refine ⟨_, _, ⟨rfl, rfl⟩, hK _ _ ⟨_, FloorI_any x (t2 y) _ _ _ _ _ ix j1 (by omega) (by have := nl_t2 (x := y) y1; omega) (t2_pos y), ?_⟩⟩; clear hK K; rintro e w23 ⟨B2, d2, B3, d3, rfl, j2, j3, hb1⟩; refine ⟨_, rfl, hS.below hb1, ?_⟩; replace hS := hS.below hb1; replace h0 := below_look hb1 h0; replace h2 := below_look hb1 h2; replace hp16 := below_look hb1 hp16; replace hp15 := below_look hb1 hp15; replace ix := ix.below hb1; replace hb := hb.trans (hb1.mono hb.size); clear hb1; try simp only [put_lit, List.set_cons_zero, List.set_cons_succ]
        refine ha_k (i := 4) rfl (by kernel_rfl) (by kernel_rfl) (by kernel_rfl) (fun _ _ _ _ h => h) hS rfl (fun K hK => ?_); go_simp; refine hK _ ?_; clear hK K; try simp only [put_lit, List.set_cons_zero, List.set_cons_succ]
        refine ha_k (i := 5) rfl (by kernel_rfl) (by kernel_rfl) (by kernel_rfl) (fun _ _ _ _ h => h) hS rfl (fun K hK => ?_); go_simp; refine hK _ ?_; clear hK K; try simp only [put_lit, List.set_cons_zero, List.set_cons_succ]
        refine ha_k (i := 6) rfl (by kernel_rfl) (by kernel_rfl) (by kernel_rfl) (fun _ _ _ _ h => h) hS rfl (fun K hK => ?_); go_simp; refine hK _ ?_; clear hK K; try simp only [put_lit, List.set_cons_zero, List.set_cons_succ]
        refine ha_store (i := 9) (by kernel_rfl) rfl rfl 84 _ _ rfl _ (iv (x / t2 y) B2 d2) rfl rfl 84 _ hp15 info84 rfl (iv_one _ _ _) (hS.setNew (by omega) _) (fun hS => ?_); try simp only [put_lit, List.set_cons_zero, List.set_cons_succ]
        replace hb := below_setRow hb (g := p15) (by omega) (iv (x / t2 y) B2 d2); replace h0 := hr_old (g := p15) (cs := iv (x / t2 y) B2 d2) h0 (by omega); replace h2 := hr_old (g := p15) (cs := iv (x / t2 y) B2 d2) h2 (by omega); replace hp16 := hr_old (g := p15) (cs := iv (x / t2 y) B2 d2) hp16 (by omega); replace ix := ix.put hp15 (iv (x / t2 y) B2 d2); replace j2 := j2.put hp15 (iv (x / t2 y) B2 d2); replace j3 := j3.put hp15 (iv (x / t2 y) B2 d2); replace hp15 := hr_new (cs := iv (x / t2 y) B2 d2) hp15
        refine ha_store (i := 10) (by kernel_rfl) rfl rfl 84 _ _ rfl _ (iv (x % t2 y) B3 d3) rfl rfl 84 _ hp16 info84 rfl (iv_one _ _ _) (hS.setNew (by omega) _) (fun hS => ?_); try simp only [put_lit, List.set_cons_zero, List.set_cons_succ]
        refine wpAnyH_done (by kernel_rfl) ?_ _
        replace hb := below_setRow hb (g := p16) (by omega) (iv (x % t2 y) B3 d3); replace h0 := hr_old (g := p16) (cs := iv (x % t2 y) B3 d3) h0 (by omega); replace h2 := hr_old (g := p16) (cs := iv (x % t2 y) B3 d3) h2 (by omega); replace hp15 := hr_old (g := p16) (cs := iv (x % t2 y) B3 d3) hp15 (by omega); replace ix := ix.put hp16 (iv (x % t2 y) B3 d3); replace j2 := j2.put hp16 (iv (x % t2 y) B3 d3); replace j3 := j3.put hp16 (iv (x % t2 y) B3 d3); replace hp16 := hr_new (cs := iv (x % t2 y) B3 d3) hp16
        exact tail p15 B2 d2 _ _ _ _ _ _ _ _ _ _ _ _ _ _ _ _ _ _ _ _ _ _ _ _ _ _ _ _ _ _ _ _ _ _ _ _ _ _ _ _ _ _ _ _ _ _ _ _ _ _ _ _ _ _ _ _ _ _ _ _ _ _ _ _ _ _ _ _ _ _ _ _ _ _ _ _ _ _ _ _ _ _ _ _ _ _ _ _ _ _ _ _ _ _ _ _ _ _ _ _ _ _ _ _ _ _ _ _ _ _ _ _ _ _ _ _ _ _ _ _ (by omega) hp15 h2 j2 hb
  · refine sh_mk (i := 7) rfl rfl (fun ev w' => ex_alloc84i rfl ev w') hS (fun w20 p15 hb1 hLp15 hlp15 hp15 hS => ?_); replace h0 := below_look hb1 h0; replace h2 := below_look hb1 h2; replace ix := ix.below hb1; replace hb := hb.trans (hb1.mono hb.size); clear hb1; try simp only [put_lit, List.set_cons_zero, List.set_cons_succ]
    refine ha_two (i := 2) (j := 8) (by kernel_rfl) ?_ ?_
    · refine sh_call (i := 2) rfl rfl (fun K hK => ?_); go_simp; refine ⟨_, _, ⟨rfl, rfl⟩, hK _ _ ⟨_, PowerT_any y y0 y1 _, ?_⟩⟩; clear hK K; rintro e w21 ⟨B1, d1, rfl, j1, hb1⟩; refine ⟨_, rfl, hS.below hb1, ?_⟩; replace hS := hS.below hb1; replace h0 := below_look hb1 h0; replace h2 := below_look hb1 h2; replace hp15 := below_look hb1 hp15; replace ix := ix.below hb1; replace hb := hb.trans (hb1.mono hb.size); clear hb1; try simp only [put_lit, List.set_cons_zero, List.set_cons_succ]
      refine ha_two (i := 3) (j := 8) (by kernel_rfl) ?_ ?_
      · refine sh_call (i := 3) rfl rfl (fun K hK => ?_); go_simp; refine ⟨_, _, ⟨rfl, rfl⟩, hK _ _ ⟨_, FloorI_any x (t2 y) _ _ _ _ _ ix j1 (by omega) (by have := nl_t2 (x := y) y1; omega) (t2_pos y), ?_⟩⟩; clear hK K; rintro e w22 ⟨B2, d2, B3, d3, rfl, j2, j3, hb1⟩; refine ⟨_, rfl, hS.below hb1, ?_⟩; replace hS := hS.below hb1; replace h0 := below_look hb1 h0; replace h2 := below_look hb1 h2; replace hp15 := below_look hb1 hp15; replace ix := ix.below hb1; replace hb := hb.trans (hb1.mono hb.size); clear hb1; try simp only [put_lit, List.set_cons_zero, List.set_cons_succ]
        refine ha_k (i := 4) rfl (by kernel_rfl) (by kernel_rfl) (by kernel_rfl) (fun _ _ _ _ h => h) hS rfl (fun K hK => ?_); go_simp; refine hK _ ?_; clear hK K; try simp only [put_lit, List.set_cons_zero, List.set_cons_succ]
        refine ha_k (i := 5) rfl (by kernel_rfl) (by kernel_rfl) (by kernel_rfl) (fun _ _ _ _ h => h) hS rfl (fun K hK => ?_); go_simp; refine hK _ ?_; clear hK K; try simp only [put_lit, List.set_cons_zero, List.set_cons_succ]
        refine ha_k (i := 6) rfl (by kernel_rfl) (by kernel_rfl) (by kernel_rfl) (fun _ _ _ _ h => h) hS rfl (fun K hK => ?_); go_simp; refine hK _ ?_; clear hK K; try simp only [put_lit, List.set_cons_zero, List.set_cons_succ]
        have ltp15p16 := heap_lt hp15
        refine ha_mk (i := 8) (by kernel_rfl) rfl rfl (fun ev w' => ex_alloc84i rfl ev w') hS (fun w23 p16 hb1 hLp16 hlp16 hp16 hS => ?_); replace h0 := below_look hb1 h0; replace h2 := below_look hb1 h2; replace hp15 := below_look hb1 hp15; replace ix := ix.below hb1; replace j2 := j2.below hb1; replace j3 := j3.below hb1; replace hb := hb.trans (hb1.mono hb.size); clear hb1; try simp only [put_lit, List.set_cons_zero, List.set_cons_succ]
        refine ha_store (i := 9) (by kernel_rfl) rfl rfl 84 _ _ rfl _ (iv (x / t2 y) B2 d2) rfl rfl 84 _ hp15 info84 rfl (iv_one _ _ _) (hS.setNew (by omega) _) (fun hS => ?_); try simp only [put_lit, List.set_cons_zero, List.set_cons_succ]
        replace hb := below_setRow hb (g := p15) (by omega) (iv (x / t2 y) B2 d2); replace h0 := hr_old (g := p15) (cs := iv (x / t2 y) B2 d2) h0 (by omega); replace h2 := hr_old (g := p15) (cs := iv (x / t2 y) B2 d2) h2 (by omega); replace hp16 := hr_old (g := p15) (cs := iv (x / t2 y) B2 d2) hp16 (by omega); replace ix := ix.put hp15 (iv (x / t2 y) B2 d2); replace j2 := j2.put hp15 (iv (x / t2 y) B2 d2); replace j3 := j3.put hp15 (iv (x / t2 y) B2 d2); replace hp15 := hr_new (cs := iv (x / t2 y) B2 d2) hp15
        refine ha_store (i := 10) (by kernel_rfl) rfl rfl 84 _ _ rfl _ (iv (x % t2 y) B3 d3) rfl rfl 84 _ hp16 info84 rfl (iv_one _ _ _) (hS.setNew (by omega) _) (fun hS => ?_); try simp only [put_lit, List.set_cons_zero, List.set_cons_succ]
        refine wpAnyH_done (by kernel_rfl) ?_ _
        replace hb := below_setRow hb (g := p16) (by omega) (iv (x % t2 y) B3 d3); replace h0 := hr_old (g := p16) (cs := iv (x % t2 y) B3 d3) h0 (by omega); replace h2 := hr_old (g := p16) (cs := iv (x % t2 y) B3 d3) h2 (by omega); replace hp15 := hr_old (g := p16) (cs := iv (x % t2 y) B3 d3) hp15 (by omega); replace ix := ix.put hp16 (iv (x % t2 y) B3 d3); replace j2 := j2.put hp16 (iv (x % t2 y) B3 d3); replace j3 := j3.put hp16 (iv (x % t2 y) B3 d3); replace hp16 := hr_new (cs := iv (x % t2 y) B3 d3) hp16
        exact tail p15 B2 d2 _ _ _ _ _ _ _ _ _ _ _ _ _ _ _ _ _ _ _ _ _ _ _ _ _ _ _ _ _ _ _ _ _ _ _ _ _ _ _ _ _ _ _ _ _ _ _ _ _ _ _ _ _ _ _ _ _ _ _ _ _ _ _ _ _ _ _ _ _ _ _ _ _ _ _ _ _ _ _ _ _ _ _ _ _ _ _ _ _ _ _ _ _ _ _ _ _ _ _ _ _ _ _ _ _ _ _ _ _ _ _ _ _ _ _ _ _ _ _ _ (by omega) hp15 h2 j2 hb
      · have ltp15p16 := heap_lt hp15
        refine sh_mk (i := 8) rfl rfl (fun ev w' => ex_alloc84i rfl ev w') hS (fun w22 p16 hb1 hLp16 hlp16 hp16 hS => ?_); replace h0 := below_look hb1 h0; replace h2 := below_look hb1 h2; replace hp15 := below_look hb1 hp15; replace ix := ix.below hb1; replace j1 := j1.below hb1; replace hb := hb.trans (hb1.mono hb.size); clear hb1; try simp only [put_lit, List.set_cons_zero, List.set_cons_succ]
        refine ha_call (i := 3) (by kernel_rfl) rfl rfl (fun K hK => ?_); go_simp; refine ⟨_, _, ⟨rfl, rfl⟩, hK _ _ ⟨_, FloorI_any x (t2 y) _ _ _ _ _ ix j1 (by omega) (by have := nl_t2 (x := y) y1; omega) (t2_pos y), ?_⟩⟩; clear hK K; rintro e w23 ⟨B2, d2, B3, d3, rfl, j2, j3, hb1⟩; refine ⟨_, rfl, hS.below hb1, ?_⟩; replace hS := hS.below hb1; replace h0 := below_look hb1 h0; replace h2 := below_look hb1 h2; replace hp15 := below_look hb1 hp15; replace hp16 := below_look hb1 hp16; replace ix := ix.below hb1; replace hb := hb.trans (hb1.mono hb.size); clear hb1; try simp only [put_lit, List.set_cons_zero, List.set_cons_succ]
        refine ha_k (i := 4) rfl (by kernel_rfl) (by kernel_rfl) (by kernel_rfl) (fun _ _ _ _ h => h) hS rfl (fun K hK => ?_); go_simp; refine hK _ ?_; clear hK K; try simp only [put_lit, List.set_cons_zero, List.set_cons_succ]
        refine ha_k (i := 5) rfl (by kernel_rfl) (by kernel_rfl) (by kernel_rfl) (fun _ _ _ _ h => h) hS rfl (fun K hK => ?_); go_simp; refine hK _ ?_; clear hK K; try simp only [put_lit, List.set_cons_zero, List.set_cons_succ]
        refine ha_k (i := 6) rfl (by kernel_rfl) (by kernel_rfl) (by kernel_rfl) (fun _ _ _ _ h => h) hS rfl (fun K hK => ?_); go_simp; refine hK _ ?_; clear hK K; try simp only [put_lit, List.set_cons_zero, List.set_cons_succ]
        refine ha_store (i := 9) (by kernel_rfl) rfl rfl 84 _ _ rfl _ (iv (x / t2 y) B2 d2) rfl rfl 84 _ hp15 info84 rfl (iv_one _ _ _) (hS.setNew (by omega) _) (fun hS => ?_); try simp only [put_lit, List.set_cons_zero, List.set_cons_succ]
        replace hb := below_setRow hb (g := p15) (by omega) (iv (x / t2 y) B2 d2); replace h0 := hr_old (g := p15) (cs := iv (x / t2 y) B2 d2) h0 (by omega); replace h2 := hr_old (g := p15) (cs := iv (x / t2 y) B2 d2) h2 (by omega); replace hp16 := hr_old (g := p15) (cs := iv (x / t2 y) B2 d2) hp16 (by omega); replace ix := ix.put hp15 (iv (x / t2 y) B2 d2); replace j2 := j2.put hp15 (iv (x / t2 y) B2 d2); replace j3 := j3.put hp15 (iv (x / t2 y) B2 d2); replace hp15 := hr_new (cs := iv (x / t2 y) B2 d2) hp15
        refine ha_store (i := 10) (by kernel_rfl) rfl rfl 84 _ _ rfl _ (iv (x % t2 y) B3 d3) rfl rfl 84 _ hp16 info84 rfl (iv_one _ _ _) (hS.setNew (by omega) _) (fun hS => ?_); try simp only [put_lit, List.set_cons_zero, List.set_cons_succ]
        refine wpAnyH_done (by kernel_rfl) ?_ _
        replace hb := below_setRow hb (g := p16) (by omega) (iv (x % t2 y) B3 d3); replace h0 := hr_old (g := p16) (cs := iv (x % t2 y) B3 d3) h0 (by omega); replace h2 := hr_old (g := p16) (cs := iv (x % t2 y) B3 d3) h2 (by omega); replace hp15 := hr_old (g := p16) (cs := iv (x % t2 y) B3 d3) hp15 (by omega); replace ix := ix.put hp16 (iv (x % t2 y) B3 d3); replace j2 := j2.put hp16 (iv (x % t2 y) B3 d3); replace j3 := j3.put hp16 (iv (x % t2 y) B3 d3); replace hp16 := hr_new (cs := iv (x % t2 y) B3 d3) hp16
        exact tail p15 B2 d2 _ _ _ _ _ _ _ _ _ _ _ _ _ _ _ _ _ _ _ _ _ _ _ _ _ _ _ _ _ _ _ _ _ _ _ _ _ _ _ _ _ _ _ _ _ _ _ _ _ _ _ _ _ _ _ _ _ _ _ _ _ _ _ _ _ _ _ _ _ _ _ _ _ _ _ _ _ _ _ _ _ _ _ _ _ _ _ _ _ _ _ _ _ _ _ _ _ _ _ _ _ _ _ _ _ _ _ _ _ _ _ _ _ _ _ _ _ _ _ _ (by omega) hp15 h2 j2 hb
    · have ltp15p16 := heap_lt hp15
      refine sh_mk (i := 8) rfl rfl (fun ev w' => ex_alloc84i rfl ev w') hS (fun w21 p16 hb1 hLp16 hlp16 hp16 hS => ?_); replace h0 := below_look hb1 h0; replace h2 := below_look hb1 h2; replace hp15 := below_look hb1 hp15; replace ix := ix.below hb1; replace hb := hb.trans (hb1.mono hb.size); clear hb1; try simp only [put_lit, List.set_cons_zero, List.set_cons_succ]
      refine ha_call (i := 2) (by kernel_rfl) rfl rfl (fun K hK => ?_); go_simp; refine ⟨_, _, ⟨rfl, rfl⟩, hK _ _ ⟨_, PowerT_any y y0 y1 _, ?_⟩⟩; clear hK K; rintro e w22 ⟨B1, d1, rfl, j1, hb1⟩; refine ⟨_, rfl, hS.below hb1, ?_⟩; replace hS := hS.below hb1; replace h0 := below_look hb1 h0; replace h2 := below_look hb1 h2; replace hp15 := below_look hb1 hp15; replace hp16 := below_look hb1 hp16; replace ix := ix.below hb1; replace hb := hb.trans (hb1.mono hb.size); clear hb1; try simp only [put_lit, List.set_cons_zero, List.set_cons_succ]
      refine ha_call (i := 3) (by kernel_rfl) rfl rfl (fun K hK => ?_); go_simp; refine ⟨_, _, ⟨rfl, rfl⟩, hK _ _ ⟨_, FloorI_any x (t2 y) _ _ _ _ _ ix j1 (by omega) (by have := nl_t2 (x := y) y1; omega) (t2_pos y), ?_⟩⟩; clear hK K; rintro e w23 ⟨B2, d2, B3, d3, rfl, j2, j3, hb1⟩; refine ⟨_, rfl, hS.below hb1, ?_⟩; replace hS := hS.below hb1; replace h0 := below_look hb1 h0; replace h2 := below_look hb1 h2; replace hp15 := below_look hb1 hp15; replace hp16 := below_look hb1 hp16; replace ix := ix.below hb1; replace hb := hb.trans (hb1.mono hb.size); clear hb1; try simp only [put_lit, List.set_cons_zero, List.set_cons_succ]
      refine ha_k (i := 4) rfl (by kernel_rfl) (by kernel_rfl) (by kernel_rfl) (fun _ _ _ _ h => h) hS rfl (fun K hK => ?_); go_simp; refine hK _ ?_; clear hK K; try simp only [put_lit, List.set_cons_zero, List.set_cons_succ]
      refine ha_k (i := 5) rfl (by kernel_rfl) (by kernel_rfl) (by kernel_rfl) (fun _ _ _ _ h => h) hS rfl (fun K hK => ?_); go_simp; refine hK _ ?_; clear hK K; try simp only [put_lit, List.set_cons_zero, List.set_cons_succ]
      refine ha_k (i := 6) rfl (by kernel_rfl) (by kernel_rfl) (by kernel_rfl) (fun _ _ _ _ h => h) hS rfl (fun K hK => ?_); go_simp; refine hK _ ?_; clear hK K; try simp only [put_lit, List.set_cons_zero, List.set_cons_succ]
      refine ha_store (i := 9) (by kernel_rfl) rfl rfl 84 _ _ rfl _ (iv (x / t2 y) B2 d2) rfl rfl 84 _ hp15 info84 rfl (iv_one _ _ _) (hS.setNew (by omega) _) (fun hS => ?_); try simp only [put_lit, List.set_cons_zero, List.set_cons_succ]
      replace hb := below_setRow hb (g := p15) (by omega) (iv (x / t2 y) B2 d2); replace h0 := hr_old (g := p15) (cs := iv (x / t2 y) B2 d2) h0 (by omega); replace h2 := hr_old (g := p15) (cs := iv (x / t2 y) B2 d2) h2 (by omega); replace hp16 := hr_old (g := p15) (cs := iv (x / t2 y) B2 d2) hp16 (by omega); replace ix := ix.put hp15 (iv (x / t2 y) B2 d2); replace j2 := j2.put hp15 (iv (x / t2 y) B2 d2); replace j3 := j3.put hp15 (iv (x / t2 y) B2 d2); replace hp15 := hr_new (cs := iv (x / t2 y) B2 d2) hp15
      refine ha_store (i := 10) (by kernel_rfl) rfl rfl 84 _ _ rfl _ (iv (x % t2 y) B3 d3) rfl rfl 84 _ hp16 info84 rfl (iv_one _ _ _) (hS.setNew (by omega) _) (fun hS => ?_); try simp only [put_lit, List.set_cons_zero, List.set_cons_succ]
      refine wpAnyH_done (by kernel_rfl) ?_ _
      replace hb := below_setRow hb (g := p16) (by omega) (iv (x % t2 y) B3 d3); replace h0 := hr_old (g := p16) (cs := iv (x % t2 y) B3 d3) h0 (by omega); replace h2 := hr_old (g := p16) (cs := iv (x % t2 y) B3 d3) h2 (by omega); replace hp15 := hr_old (g := p16) (cs := iv (x % t2 y) B3 d3) hp15 (by omega); replace ix := ix.put hp16 (iv (x % t2 y) B3 d3); replace j2 := j2.put hp16 (iv (x % t2 y) B3 d3); replace j3 := j3.put hp16 (iv (x % t2 y) B3 d3); replace hp16 := hr_new (cs := iv (x % t2 y) B3 d3) hp16
      exact tail p15 B2 d2 _ _ _ _ _ _ _ _ _ _ _ _ _ _ _ _ _ _ _ _ _ _ _ _ _ _ _ _ _ _ _ _ _ _ _ _ _ _ _ _ _ _ _ _ _ _ _ _ _ _ _ _ _ _ _ _ _ _ _ _ _ _ _ _ _ _ _ _ _ _ _ _ _ _ _ _ _ _ _ _ _ _ _ _ _ _ _ _ _ _ _ _ _ _ _ _ _ _ _ _ _ _ _ _ _ _ _ _ _ _ _ _ _ _ _ _ _ _ _ _ (by omega) hp15 h2 j2 hb
  · refine sh_mk (i := 8) rfl rfl (fun ev w' => ex_alloc84i rfl ev w') hS (fun w20 p16 hb1 hLp16 hlp16 hp16 hS => ?_); replace h0 := below_look hb1 h0; replace h2 := below_look hb1 h2; replace ix := ix.below hb1; replace hb := hb.trans (hb1.mono hb.size); clear hb1; try simp only [put_lit, List.set_cons_zero, List.set_cons_succ]
    refine ha_two (i := 2) (j := 7) (by kernel_rfl) ?_ ?_
    · refine sh_call (i := 2) rfl rfl (fun K hK => ?_); go_simp; refine ⟨_, _, ⟨rfl, rfl⟩, hK _ _ ⟨_, PowerT_any y y0 y1 _, ?_⟩⟩; clear hK K; rintro e w21 ⟨B1, d1, rfl, j1, hb1⟩; refine ⟨_, rfl, hS.below hb1, ?_⟩; replace hS := hS.below hb1; replace h0 := below_look hb1 h0; replace h2 := below_look hb1 h2; replace hp16 := below_look hb1 hp16; replace ix := ix.below hb1; replace hb := hb.trans (hb1.mono hb.size); clear hb1; try simp only [put_lit, List.set_cons_zero, List.set_cons_succ]
      refine ha_two (i := 3) (j := 7) (by kernel_rfl) ?_ ?_
      · refine sh_call (i := 3) rfl rfl (fun K hK => ?_); go_simp; refine ⟨_, _, ⟨rfl, rfl⟩, hK _ _ ⟨_, FloorI_any x (t2 y) _ _ _ _ _ ix j1 (by omega) (by have := nl_t2 (x := y) y1; omega) (t2_pos y), ?_⟩⟩; clear hK K; rintro e w22 ⟨B2, d2, B3, d3, rfl, j2, j3, hb1⟩; refine ⟨_, rfl, hS.below hb1, ?_⟩; replace hS := hS.below hb1; replace h0 := below_look hb1 h0; replace h2 := below_look hb1 h2; replace hp16 := below_look hb1 hp16; replace ix := ix.below hb1; replace hb := hb.trans (hb1.mono hb.size); clear hb1; try simp only [put_lit, List.set_cons_zero, List.set_cons_succ]
        refine ha_k (i := 4) rfl (by kernel_rfl) (by kernel_rfl) (by kernel_rfl) (fun _ _ _ _ h => h) hS rfl (fun K hK => ?_); go_simp; refine hK _ ?_; clear hK K; try simp only [put_lit, List.set_cons_zero, List.set_cons_succ]
        refine ha_k (i := 5) rfl (by kernel_rfl) (by kernel_rfl) (by kernel_rfl) (fun _ _ _ _ h => h) hS rfl (fun K hK => ?_); go_simp; refine hK _ ?_; clear hK K; try simp only [put_lit, List.set_cons_zero, List.set_cons_succ]
        refine ha_k (i := 6) rfl (by kernel_rfl) (by kernel_rfl) (by kernel_rfl) (fun _ _ _ _ h => h) hS rfl (fun K hK => ?_); go_simp; refine hK _ ?_; clear hK K; try simp only [put_lit, List.set_cons_zero, List.set_cons_succ]
        have ltp16p15 := heap_lt hp16
        refine ha_mk (i := 7) (by kernel_rfl) rfl rfl (fun ev w' => ex_alloc84i rfl ev w') hS (fun w23 p15 hb1 hLp15 hlp15 hp15 hS => ?_); replace h0 := below_look hb1 h0; replace h2 := below_look hb1 h2; replace hp16 := below_look hb1 hp16; replace ix := ix.below hb1; replace j2 := j2.below hb1; replace j3 := j3.below hb1; replace hb := hb.trans (hb1.mono hb.size); clear hb1; try simp only [put_lit, List.set_cons_zero, List.set_cons_succ]
        refine ha_store (i := 9) (by kernel_rfl) rfl rfl 84 _ _ rfl _ (iv (x / t2 y) B2 d2) rfl rfl 84 _ hp15 info84 rfl (iv_one _ _ _) (hS.setNew (by omega) _) (fun hS => ?_); try simp only [put_lit, List.set_cons_zero, List.set_cons_succ]
        replace hb := below_setRow hb (g := p15) (by omega) (iv (x / t2 y) B2 d2); replace h0 := hr_old (g := p15) (cs := iv (x / t2 y) B2 d2) h0 (by omega); replace h2 := hr_old (g := p15) (cs := iv (x / t2 y) B2 d2) h2 (by omega); replace hp16 := hr_old (g := p15) (cs := iv (x / t2 y) B2 d2) hp16 (by omega); replace ix := ix.put hp15 (iv (x / t2 y) B2 d2); replace j2 := j2.put hp15 (iv (x / t2 y) B2 d2); replace j3 := j3.put hp15 (iv (x / t2 y) B2 d2); replace hp15 := hr_new (cs := iv (x / t2 y) B2 d2) hp15
        refine ha_store (i := 10) (by kernel_rfl) rfl rfl 84 _ _ rfl _ (iv (x % t2 y) B3 d3) rfl rfl 84 _ hp16 info84 rfl (iv_one _ _ _) (hS.setNew (by omega) _) (fun hS => ?_); try simp only [put_lit, List.set_cons_zero, List.set_cons_succ]
        refine wpAnyH_done (by kernel_rfl) ?_ _
        replace hb := below_setRow hb (g := p16) (by omega) (iv (x % t2 y) B3 d3); replace h0 := hr_old (g := p16) (cs := iv (x % t2 y) B3 d3) h0 (by omega); replace h2 := hr_old (g := p16) (cs := iv (x % t2 y) B3 d3) h2 (by omega); replace hp15 := hr_old (g := p16) (cs := iv (x % t2 y) B3 d3) hp15 (by omega); replace ix := ix.put hp16 (iv (x % t2 y) B3 d3); replace j2 := j2.put hp16 (iv (x % t2 y) B3 d3); replace j3 := j3.put hp16 (iv (x % t2 y) B3 d3); replace hp16 := hr_new (cs := iv (x % t2 y) B3 d3) hp16
        exact tail p15 B2 d2 _ _ _ _ _ _ _ _ _ _ _ _ _ _ _ _ _ _ _ _ _ _ _ _ _ _ _ _ _ _ _ _ _ _ _ _ _ _ _ _ _ _ _ _ _ _ _ _ _ _ _ _ _ _ _ _ _ _ _ _ _ _ _ _ _ _ _ _ _ _ _ _ _ _ _ _ _ _ _ _ _ _ _ _ _ _ _ _ _ _ _ _ _ _ _ _ _ _ _ _ _ _ _ _ _ _ _ _ _ _ _ _ _ _ _ _ _ _ _ _ (by omega) hp15 h2 j2 hb
      · have ltp16p15 := heap_lt hp16
        refine sh_mk (i := 7) rfl rfl (fun ev w' => ex_alloc84i rfl ev w') hS (fun w22 p15 hb1 hLp15 hlp15 hp15 hS => ?_); replace h0 := below_look hb1 h0; replace h2 := below_look hb1 h2; replace hp16 := below_look hb1 hp16; replace ix := ix.below hb1; replace j1 := j1.below hb1; replace hb := hb.trans (hb1.mono hb.size); clear hb1; try simp only [put_lit, List.set_cons_zero, List.set_cons_succ]
        refine ha_call (i := 3) (by kernel_rfl) rfl rfl (fun K hK => ?_); go_simp; refine ⟨_, _, ⟨rfl, rfl⟩, hK _ _ ⟨_, FloorI_any x (t2 y) _ _ _ _ _ ix j1 (by omega) (by have := nl_t2 (x := y) y1; omega) (t2_pos y), ?_⟩⟩; clear hK K; rintro e w23 ⟨B2, d2, B3, d3, rfl, j2, j3, hb1⟩; refine ⟨_, rfl, hS.below hb1, ?_⟩; replace hS := hS.below hb1; replace h0 := below_look hb1 h0; replace h2 := below_look hb1 h2; replace hp16 := below_look hb1 hp16; replace hp15 := below_look hb1 hp15; replace ix := ix.below hb1; replace hb := hb.trans (hb1.mono hb.size); clear hb1; try simp only [put_lit, List.set_cons_zero, List.set_cons_succ]
        refine ha_k (i := 4) rfl (by kernel_rfl) (by kernel_rfl) (by kernel_rfl) (fun _ _ _ _ h => h) hS rfl (fun K hK => ?_); go_simp; refine hK _ ?_; clear hK K; try simp only [put_lit, List.set_cons_zero, List.set_cons_succ]
        refine ha_k (i := 5) rfl (by kernel_rfl) (by kernel_rfl) (by kernel_rfl) (fun _ _ _ _ h => h) hS rfl (fun K hK => ?_); go_simp; refine hK _ ?_; clear hK K; try simp only [put_lit, List.set_cons_zero, List.set_cons_succ]
        refine ha_k (i := 6) rfl (by kernel_rfl) (by kernel_rfl) (by kernel_rfl) (fun _ _ _ _ h => h) hS rfl (fun K hK => ?_); go_simp; refine hK _ ?_; clear hK K; try simp only [put_lit, List.set_cons_zero, List.set_cons_succ]
        refine ha_store (i := 9) (by kernel_rfl) rfl rfl 84 _ _ rfl _ (iv (x / t2 y) B2 d2) rfl rfl 84 _ hp15 info84 rfl (iv_one _ _ _) (hS.setNew (by omega) _) (fun hS => ?_); try simp only [put_lit, List.set_cons_zero, List.set_cons_succ]
        replace hb := below_setRow hb (g := p15) (by omega) (iv (x / t2 y) B2 d2); replace h0 := hr_old (g := p15) (cs := iv (x / t2 y) B2 d2) h0 (by omega); replace h2 := hr_old (g := p15) (cs := iv (x / t2 y) B2 d2) h2 (by omega); replace hp16 := hr_old (g := p15) (cs := iv (x / t2 y) B2 d2) hp16 (by omega); replace ix := ix.put hp15 (iv (x / t2 y) B2 d2); replace j2 := j2.put hp15 (iv (x / t2 y) B2 d2); replace j3 := j3.put hp15 (iv (x / t2 y) B2 d2); replace hp15 := hr_new (cs := iv (x / t2 y) B2 d2) hp15
        refine ha_store (i := 10) (by kernel_rfl) rfl rfl 84 _ _ rfl _ (iv (x % t2 y) B3 d3) rfl rfl 84 _ hp16 info84 rfl (iv_one _ _ _) (hS.setNew (by omega) _) (fun hS => ?_); try simp only [put_lit, List.set_cons_zero, List.set_cons_succ]
        refine wpAnyH_done (by kernel_rfl) ?_ _
        replace hb := below_setRow hb (g := p16) (by omega) (iv (x % t2 y) B3 d3); replace h0 := hr_old (g := p16) (cs := iv (x % t2 y) B3 d3) h0 (by omega); replace h2 := hr_old (g := p16) (cs := iv (x % t2 y) B3 d3) h2 (by omega); replace hp15 := hr_old (g := p16) (cs := iv (x % t2 y) B3 d3) hp15 (by omega); replace ix := ix.put hp16 (iv (x % t2 y) B3 d3); replace j2 := j2.put hp16 (iv (x % t2 y) B3 d3); replace j3 := j3.put hp16 (iv (x % t2 y) B3 d3); replace hp16 := hr_new (cs := iv (x % t2 y) B3 d3) hp16
        exact tail p15 B2 d2 _ _ _ _ _ _ _ _ _ _ _ _ _ _ _ _ _ _ _ _ _ _ _ _ _ _ _ _ _ _ _ _ _ _ _ _ _ _ _ _ _ _ _ _ _ _ _ _ _ _ _ _ _ _ _ _ _ _ _ _ _ _ _ _ _ _ _ _ _ _ _ _ _ _ _ _ _ _ _ _ _ _ _ _ _ _ _ _ _ _ _ _ _ _ _ _ _ _ _ _ _ _ _ _ _ _ _ _ _ _ _ _ _ _ _ _ _ _ _ _ (by omega) hp15 h2 j2 hb
    · have ltp16p15 := heap_lt hp16
      refine sh_mk (i := 7) rfl rfl (fun ev w' => ex_alloc84i rfl ev w') hS (fun w21 p15 hb1 hLp15 hlp15 hp15 hS => ?_); replace h0 := below_look hb1 h0; replace h2 := below_look hb1 h2; replace hp16 := below_look hb1 hp16; replace ix := ix.below hb1; replace hb := hb.trans (hb1.mono hb.size); clear hb1; try simp only [put_lit, List.set_cons_zero, List.set_cons_succ]
      refine ha_call (i := 2) (by kernel_rfl) rfl rfl (fun K hK => ?_); go_simp; refine ⟨_, _, ⟨rfl, rfl⟩, hK _ _ ⟨_, PowerT_any y y0 y1 _, ?_⟩⟩; clear hK K; rintro e w22 ⟨B1, d1, rfl, j1, hb1⟩; refine ⟨_, rfl, hS.below hb1, ?_⟩; replace hS := hS.below hb1; replace h0 := below_look hb1 h0; replace h2 := below_look hb1 h2; replace hp16 := below_look hb1 hp16; replace hp15 := below_look hb1 hp15; replace ix := ix.below hb1; replace hb := hb.trans (hb1.mono hb.size); clear hb1; try simp only [put_lit, List.set_cons_zero, List.set_cons_succ]
      refine ha_call (i := 3) (by kernel_rfl) rfl rfl (fun K hK => ?_); go_simp; refine ⟨_, _, ⟨rfl, rfl⟩, hK _ _ ⟨_, FloorI_any x (t2 y) _ _ _ _ _ ix j1 (by omega) (by have := nl_t2 (x := y) y1; omega) (t2_pos y), ?_⟩⟩; clear hK K; rintro e w23 ⟨B2, d2, B3, d3, rfl, j2, j3, hb1⟩; refine ⟨_, rfl, hS.below hb1, ?_⟩; replace hS := hS.below hb1; replace h0 := below_look hb1 h0; replace h2 := below_look hb1 h2; replace hp16 := below_look hb1 hp16; replace hp15 := below_look hb1 hp15; replace ix := ix.below hb1; replace hb := hb.trans (hb1.mono hb.size); clear hb1; try simp only [put_lit, List.set_cons_zero, List.set_cons_succ]
      refine ha_k (i := 4) rfl (by kernel_rfl) (by kernel_rfl) (by kernel_rfl) (fun _ _ _ _ h => h) hS rfl (fun K hK => ?_); go_simp; refine hK _ ?_; clear hK K; try simp only [put_lit, List.set_cons_zero, List.set_cons_succ]
      refine ha_k (i := 5) rfl (by kernel_rfl) (by kernel_rfl) (by kernel_rfl) (fun _ _ _ _ h => h) hS rfl (fun K hK => ?_); go_simp; refine hK _ ?_; clear hK K; try simp only [put_lit, List.set_cons_zero, List.set_cons_succ]
      refine ha_k (i := 6) rfl (by kernel_rfl) (by kernel_rfl) (by kernel_rfl) (fun _ _ _ _ h => h) hS rfl (fun K hK => ?_); go_simp; refine hK _ ?_; clear hK K; try simp only [put_lit, List.set_cons_zero, List.set_cons_succ]
      refine ha_store (i := 9) (by kernel_rfl) rfl rfl 84 _ _ rfl _ (iv (x / t2 y) B2 d2) rfl rfl 84 _ hp15 info84 rfl (iv_one _ _ _) (hS.setNew (by omega) _) (fun hS => ?_); try simp only [put_lit, List.set_cons_zero, List.set_cons_succ]
      replace hb := below_setRow hb (g := p15) (by omega) (iv (x / t2 y) B2 d2); replace h0 := hr_old (g := p15) (cs := iv (x / t2 y) B2 d2) h0 (by omega); replace h2 := hr_old (g := p15) (cs := iv (x / t2 y) B2 d2) h2 (by omega); replace hp16 := hr_old (g := p15) (cs := iv (x / t2 y) B2 d2) hp16 (by omega); replace ix := ix.put hp15 (iv (x / t2 y) B2 d2); replace j2 := j2.put hp15 (iv (x / t2 y) B2 d2); replace j3 := j3.put hp15 (iv (x / t2 y) B2 d2); replace hp15 := hr_new (cs := iv (x / t2 y) B2 d2) hp15
      refine ha_store (i := 10) (by kernel_rfl) rfl rfl 84 _ _ rfl _ (iv (x % t2 y) B3 d3) rfl rfl 84 _ hp16 info84 rfl (iv_one _ _ _) (hS.setNew (by omega) _) (fun hS => ?_); try simp only [put_lit, List.set_cons_zero, List.set_cons_succ]
      refine wpAnyH_done (by kernel_rfl) ?_ _
      replace hb := below_setRow hb (g := p16) (by omega) (iv (x % t2 y) B3 d3); replace h0 := hr_old (g := p16) (cs := iv (x % t2 y) B3 d3) h0 (by omega); replace h2 := hr_old (g := p16) (cs := iv (x % t2 y) B3 d3) h2 (by omega); replace hp15 := hr_old (g := p16) (cs := iv (x % t2 y) B3 d3) hp15 (by omega); replace ix := ix.put hp16 (iv (x % t2 y) B3 d3); replace j2 := j2.put hp16 (iv (x % t2 y) B3 d3); replace j3 := j3.put hp16 (iv (x % t2 y) B3 d3); replace hp16 := hr_new (cs := iv (x % t2 y) B3 d3) hp16
      exact tail p15 B2 d2 _ _ _ _ _ _ _ _ _ _ _ _ _ _ _ _ _ _ _ _ _ _ _ _ _ _ _ _ _ _ _ _ _ _ _ _ _ _ _ _ _ _ _ _ _ _ _ _ _ _ _ _ _ _ _ _ _ _ _ _ _ _ _ _ _ _ _ _ _ _ _ _ _ _ _ _ _ _ _ _ _ _ _ _ _ _ _ _ _ _ _ _ _ _ _ _ _ _ _ _ _ _ _ _ _ _ _ _ _ _ _ _ _ _ _ _ _ _ _ _ (by omega) hp15 h2 j2 hb
set_option maxHeartbeats 4000000 in
set_option maxRecDepth 100000 in
theorem exactI_and (op : ByteArray) (n : Nat) (s : Bool) (x y : Int) (A A' : Option Addr) (c c' : Nat) (hop : op.data.toList = [38]) (n1 : 1 ≤ n) (n2 : n ≤ 64) (hx : x.natAbs ≤ 18446744073709551616) (hy : y.natAbs ≤ 18446744073709551616) (v u : Nat) (hv : (v : Int) = x % ((2 ^ n : Nat) : Int)) (hu : (u : Int) = y % ((2 ^ n : Nat) : Int)) (hr : (v &&& u) < 2 ^ n) (w : World) (hI : IvAt w x A c) (hJ : IvAt w y A' c') :
    Calls Try.prog 70 #[.string op, .agg (iv x A c), .agg (iv y A' c'), .int .i64 (n : Int), .bool s] w fun e w' => ∃ A2 c2, e = .returned (.agg (iv (wrapW n s ((v &&& u : Nat) : Int)) A2 c2)) ∧ IvAt w' (wrapW n s ((v &&& u : Nat) : Int)) A2 c2 ∧ Below w.heap.size w w' := by
  have HX := Lib.hid hI
  have HY := Lib.hid hJ
  have HV := Lib.hid hv
  have HU := Lib.hid hu
  have HR := Lib.hid hr
  have nx := nl_3 hx
  have ny := nl_3 hy
  clear hI hJ hv hu hr
  have l1 := lit_eq hop (l := [43]) rfl
  have l2 := lit_eq hop (l := [45]) rfl
  have l3 := lit_eq hop (l := [42]) rfl
  have l4 := lit_eq hop (l := [47]) rfl
  have l5 := lit_eq hop (l := [37]) rfl
  have l6 := lit_eq hop (l := [60, 60]) rfl
  have l7 := lit_eq hop (l := [62, 62]) rfl
  have l8 := lit_eq hop (l := [38]) rfl
  have l9 := lit_eq hop (l := [124]) rfl
  clear hop hx hy
  go_enter Try.func70, Try.ntmps70
  go_upto_region 1 with (fail)
  refine wp_world (fun W => W.heap[w.heap.size]? = some (.cells (iv x A c) 84 (0, 0)) ∧ W.heap[w.heap.size + 1]? = some (.cells (iv y A' c') 84 (0, 0)) ∧ W.heap[w.heap.size + 1 + 1]? = some (.cells (iv 0 none 0) 84 (0, 0)) ∧ Below w.heap.size w W) ⟨ha_old (ha_old (ha_new rfl)), ha_old (ha_new (by simp)), by rw [iv_zero]; exact ha_new (by simp), (((Below.refl _ _).alloc (Nat.le_refl _) _).alloc (by simp) _).alloc (by simp; omega) _⟩ ?_
  rintro W ⟨h0, h1, h2, hb⟩
  have ix := HX.out.below hb
  have iy := HY.out.below hb
  go_upto_region 21 with (fail)
  have L2 := heap_lt h2
  have LW := hb.size
  replace ix := ix.below (Below.refl _ _).drew
  replace iy := iy.below (Below.refl _ _).drew
  replace hb := hb.drew
  refine wp_region_held_drew (S := Kept [] W) mixed (Kept.drew [] W) (fun hS => ?_)
  refine ha_val (i := 0) rfl (by kernel_rfl) (by kernel_rfl) (by kernel_rfl) (fun _ _ _ h => h) hS rfl (fun w' hw' => ex_row rfl (rowIv (hw'.look h0 (by simp <;> omega)))) ?_; try simp only [put_lit, List.set_cons_zero, List.set_cons_succ]
  refine ha_k (i := 1) rfl (by kernel_rfl) (by kernel_rfl) (by kernel_rfl) (fun _ _ _ _ h => h) hS rfl (fun K hK => ?_); go_simp; refine hK _ ?_; clear hK K; try simp only [put_lit, List.set_cons_zero, List.set_cons_succ]
  refine ha_val (i := 3) rfl (by kernel_rfl) (by kernel_rfl) (by kernel_rfl) (fun _ _ _ h => h) hS rfl (fun w' hw' => ex_row rfl (rowIv (hw'.look h1 (by simp <;> omega)))) ?_; try simp only [put_lit, List.set_cons_zero, List.set_cons_succ]
  refine ha_k (i := 4) rfl (by kernel_rfl) (by kernel_rfl) (by kernel_rfl) (fun _ _ _ _ h => h) hS rfl (fun K hK => ?_); go_simp; refine hK _ ?_; clear hK K; try simp only [put_lit, List.set_cons_zero, List.set_cons_succ]
  refine ha_call (i := 2) (by kernel_rfl) rfl rfl (fun K hK => ?_); go_simp; refine ⟨_, _, ⟨rfl, rfl⟩, hK _ _ ⟨_, PatI_any x _ _ n n1 n2 _ ix (by omega) v HV.out, ?_⟩⟩; clear hK K; rintro e w1 ⟨sp, rfl, hsp, hb1⟩; refine ⟨_, rfl, hS.below hb1, ?_⟩; replace hS := hS.below hb1; obtain ⟨g, cp, rfl, hg0, hg⟩ := own_words hsp n1; replace h0 := below_look hb1 h0; replace h1 := below_look hb1 h1; replace h2 := below_look hb1 h2; replace iy := iy.below hb1; replace hb := hb.trans (hb1.mono hb.size); clear hb1; try simp only [put_lit, List.set_cons_zero, List.set_cons_succ]
  refine ha_call (i := 5) (by kernel_rfl) rfl rfl (fun K hK => ?_); go_simp; refine ⟨_, _, ⟨rfl, rfl⟩, hK _ _ ⟨_, PatI_any y _ _ n n1 n2 _ iy (by omega) u HU.out, ?_⟩⟩; clear hK K; rintro e w2 ⟨sq, rfl, hsq, hb1⟩; refine ⟨_, rfl, hS.below hb1, ?_⟩; replace hS := hS.below hb1; obtain ⟨g', cq, rfl, hg0', hg'⟩ := own_words hsq n1; have LG := hg.lt; replace hg := hg.below hb1; replace h0 := below_look hb1 h0; replace h1 := below_look hb1 h1; replace h2 := below_look hb1 h2; replace hb := hb.trans (hb1.mono hb.size); clear hb1; try simp only [put_lit, List.set_cons_zero, List.set_cons_succ]
  refine ha_k (i := 6) rfl (by kernel_rfl) (by kernel_rfl) (by kernel_rfl) (fun _ _ _ _ h => h) hS rfl (fun K hK => ?_); go_simp; refine hK _ ?_; clear hK K; try simp only [put_lit, List.set_cons_zero, List.set_cons_succ]
  refine ha_k (i := 7) rfl (by kernel_rfl) (by kernel_rfl) (by kernel_rfl) (fun _ _ _ _ h => h) hS rfl (fun K hK => ?_); go_simp; refine hK _ ?_; clear hK K; try simp only [put_lit, List.set_cons_zero, List.set_cons_succ]
  refine wpAnyH_done (by kernel_rfl) ?_ _
  have hg2 : w.heap.size + 1 + 1 < g := by have : W.heap.size ≤ g := hg0; omega
  have hne : g ≠ g' := by omega
  clear LG hg0 hg0' ix iy L2 LW hsp hsq hS h0 h1
  go_wp2_with fail
  go_loopw [19] (fun i wr => ∃ k : Nat, k ≤ n ∧ i = .int .i64 (k : Int) ∧ WordsAt wr g n (fun j => if j < k then bt (v &&& u) j else bt v j) ∧ WordsAt wr g' n (bt u) ∧ wr.heap[w.heap.size + 1 + 1]? = some (.cells (iv 0 none 0) 84 (0, 0)) ∧ Below w.heap.size w wr) (fun i _ => (n - intOf i).toNat)
  case atStart => exact ⟨0, by omega, rfl, by simpa using hg, hg', h2, hb⟩
  case round =>
    clear h2 hg hg' hb
    obtain ⟨k, hk, rfl, hg, hg', h2, hb⟩ := hrel
    by_cases hlt : k < n
    · obtain ⟨cg, fg⟩ := hg.cell hlt
      have cg' := (hg'.cell hlt).1
      have LG := hg.lt
      have LG' := hg'.lt
      rw [if_neg (by omega)] at cg
      have HB := Lib.hid (bits_and v u k)
      obtain ⟨a, ha⟩ : ∃ a : Nat, a = bt v k := ⟨_, rfl⟩
      obtain ⟨b, hbb⟩ : ∃ b : Nat, b = bt u k := ⟨_, rfl⟩
      rw [← ha] at cg HB
      rw [← hbb] at cg' HB
      have hg1 := Lib.hid hg
      have hg2' := Lib.hid hg'
      clear ha hbb hg hg'
      go_upto_region 28 with (fail)
      replace hb := hb.drew
      refine wp_region_held_drew (S := Kept [g] wr) mixed (Kept.drew [g] wr) (fun hS => ?_)
      refine ha_k (i := 0) rfl (by kernel_rfl) (by kernel_rfl) (by kernel_rfl) (fun _ _ _ _ h => h) hS rfl (fun K hK => ?_); go_simp; refine hK _ ?_; clear hK K; try simp only [put_lit, List.set_cons_zero, List.set_cons_succ]
      refine ha_k (i := 1) rfl (by kernel_rfl) (by kernel_rfl) (by kernel_rfl) (fun _ _ _ _ h => h) hS rfl (fun K hK => ?_); go_simp; refine hK _ ?_; clear hK K; try simp only [put_lit, List.set_cons_zero, List.set_cons_succ]
      refine ha_k (i := 2) rfl (by kernel_rfl) (by kernel_rfl) (by kernel_rfl) (fun _ _ _ _ h => h) hS rfl (fun K hK => ?_); go_simp; refine hK _ ?_; clear hK K; try simp only [put_lit, List.set_cons_zero, List.set_cons_succ]
      refine ha_k (i := 3) rfl (by kernel_rfl) (by kernel_rfl) (by kernel_rfl) (fun _ _ _ _ h => h) hS rfl (fun K hK => ?_); go_simp; refine hK _ ?_; clear hK K; try simp only [put_lit, List.set_cons_zero, List.set_cons_succ]
      refine ha_k (i := 4) rfl (by kernel_rfl) (by kernel_rfl) (by kernel_rfl) (fun _ _ _ _ h => h) hS rfl (fun K hK => ?_); go_simp; refine hK _ ?_; clear hK K; try simp only [put_lit, List.set_cons_zero, List.set_cons_succ]
      refine ha_k (i := 6) rfl (by kernel_rfl) (by kernel_rfl) (by kernel_rfl) (fun _ _ _ _ h => h) hS rfl (fun K hK => ?_); go_simp; refine hK _ ?_; clear hK K; try simp only [put_lit, List.set_cons_zero, List.set_cons_succ]
      refine ha_k (i := 7) rfl (by kernel_rfl) (by kernel_rfl) (by kernel_rfl) (fun _ _ _ _ h => h) hS rfl (fun K hK => ?_); go_simp; refine hK _ ?_; clear hK K; try simp only [put_lit, List.set_cons_zero, List.set_cons_succ]
      refine ha_k (i := 8) rfl (by kernel_rfl) (by kernel_rfl) (by kernel_rfl) (fun _ _ _ _ h => h) hS rfl (fun K hK => ?_); go_simp; refine hK _ ?_; clear hK K; try simp only [put_lit, List.set_cons_zero, List.set_cons_succ]
      refine ha_val (i := 9) rfl (by kernel_rfl) (by kernel_rfl) (by kernel_rfl) (fun _ _ _ h => h) hS rfl (fun w' hw' => ex_one rfl (one121 (hw'.cell cg' (by simp <;> omega)))) ?_; try simp only [put_lit, List.set_cons_zero, List.set_cons_succ]
      refine ha_do (i := 5) (by kernel_rfl) rfl rfl (ex_one rfl (one121 cg)) hS ?_; try simp only [put_lit, List.set_cons_zero, List.set_cons_succ]
      refine ha_k (i := 10) rfl (by kernel_rfl) (by kernel_rfl) (by kernel_rfl) (fun _ _ _ _ h => h) hS rfl (fun K hK => ?_); go_simp; refine hK _ ?_; clear hK K; try simp only [put_lit, List.set_cons_zero, List.set_cons_succ]
      refine ha_k (i := 11) rfl (by kernel_rfl) (by kernel_rfl) (by kernel_rfl) (fun _ _ _ _ h => h) hS rfl (fun K hK => ?_); go_simp; refine hK _ ?_; clear hK K; try simp only [put_lit, List.set_cons_zero, List.set_cons_succ]
      refine ha_cell121 (i := 12) (by kernel_rfl) rfl rfl _ _ rfl ⟨g, k, none⟩ (bits .and .u32 (a : Int) (b : Int)) _ rfl rfl cg fg (hS.setCell (by simp) _ _) (fun hS => ?_); try simp only [put_lit, List.set_cons_zero, List.set_cons_succ]
      refine wpAnyH_done (by kernel_rfl) ?_ _
      rw [HB.out]
      clear cg cg' fg
      have hd := hg1.out
      have hd' := hg2'.out
      clear hS
      go_wp2_with fail
      go_roundw
      case rel => exact ⟨k + 1, by omega, by go_num, (WordsAt.set hd hlt (by rw [if_pos (by omega)]) (fun j hj => by by_cases h : j < k <;> simp [h, show (j < k + 1) = (j < k) by rw [eq_iff_iff]; omega])), hd'.other hne, hs_old h2 (by simp; omega), hb.setCell (by simp; omega) _⟩
      case measure => simp [intOf]; omega
    · obtain rfl : k = n := by omega
      have hbt := hg.bits (v := v &&& u) (fun j hj => by rw [if_pos hj])
      go_upto_region 31 with (fail)
      apply wp_region_lit
      refine wl_k rfl (fun K hK => ?_); go_simp; refine hK _ ?_; clear hK K
      refine wl_k rfl (fun K hK => ?_); go_simp; refine hK _ ?_; clear hK K
      refine wl_ck rfl (fun K hK => ?_); go_simp; refine ⟨_, _, ⟨rfl, rfl⟩, hK _ _ ⟨_, ValI_any g _ k s (v &&& u) n1 n2 HR.out _ hbt, ?_⟩⟩; clear hK K; rintro e w5 ⟨A2, c2, rfl, i2, hb1⟩; refine ⟨_, rfl, ?_⟩; simp only [put_lit, List.set_cons_zero, List.set_cons_succ]
      replace h2 := below_look hb1 h2; replace hb := hb.trans (hb1.mono hb.size); clear hb1
      ((with_reducible apply wl_putI); exact rfl; exact rfl; exact h2; intro w6 hbx hk hq hi; replace i2 := hi _ _ _ i2; replace hb := hbx _ _ (by omega) hb; clear h2; have h2 := hq; clear hbx hk hq hi)
      go_wp2_with fail
      exact bodyPost_ret (res_iv rfl _ _ (w.heap.size + 1 + 1) rfl h2) rfl ⟨_, _, rfl, i2, hb⟩
set_option maxHeartbeats 4000000 in
set_option maxRecDepth 100000 in
theorem exactI_or (op : ByteArray) (n : Nat) (s : Bool) (x y : Int) (A A' : Option Addr) (c c' : Nat) (hop : op.data.toList = [124]) (n1 : 1 ≤ n) (n2 : n ≤ 64) (hx : x.natAbs ≤ 18446744073709551616) (hy : y.natAbs ≤ 18446744073709551616) (v u : Nat) (hv : (v : Int) = x % ((2 ^ n : Nat) : Int)) (hu : (u : Int) = y % ((2 ^ n : Nat) : Int)) (hr : (v ||| u) < 2 ^ n) (w : World) (hI : IvAt w x A c) (hJ : IvAt w y A' c') :
    Calls Try.prog 70 #[.string op, .agg (iv x A c), .agg (iv y A' c'), .int .i64 (n : Int), .bool s] w fun e w' => ∃ A2 c2, e = .returned (.agg (iv (wrapW n s ((v ||| u : Nat) : Int)) A2 c2)) ∧ IvAt w' (wrapW n s ((v ||| u : Nat) : Int)) A2 c2 ∧ Below w.heap.size w w' := by
  have HX := Lib.hid hI
  have HY := Lib.hid hJ
  have HV := Lib.hid hv
  have HU := Lib.hid hu
  have HR := Lib.hid hr
  have nx := nl_3 hx
  have ny := nl_3 hy
  clear hI hJ hv hu hr
  have l1 := lit_eq hop (l := [43]) rfl
  have l2 := lit_eq hop (l := [45]) rfl
  have l3 := lit_eq hop (l := [42]) rfl
  have l4 := lit_eq hop (l := [47]) rfl
  have l5 := lit_eq hop (l := [37]) rfl
  have l6 := lit_eq hop (l := [60, 60]) rfl
  have l7 := lit_eq hop (l := [62, 62]) rfl
  have l8 := lit_eq hop (l := [38]) rfl
  have l9 := lit_eq hop (l := [124]) rfl
  clear hop hx hy
  go_enter Try.func70, Try.ntmps70
  go_upto_region 1 with (fail)
  refine wp_world (fun W => W.heap[w.heap.size]? = some (.cells (iv x A c) 84 (0, 0)) ∧ W.heap[w.heap.size + 1]? = some (.cells (iv y A' c') 84 (0, 0)) ∧ W.heap[w.heap.size + 1 + 1]? = some (.cells (iv 0 none 0) 84 (0, 0)) ∧ Below w.heap.size w W) ⟨ha_old (ha_old (ha_new rfl)), ha_old (ha_new (by simp)), by rw [iv_zero]; exact ha_new (by simp), (((Below.refl _ _).alloc (Nat.le_refl _) _).alloc (by simp) _).alloc (by simp; omega) _⟩ ?_
  rintro W ⟨h0, h1, h2, hb⟩
  have ix := HX.out.below hb
  have iy := HY.out.below hb
  go_upto_region 21 with (fail)
  have L2 := heap_lt h2
  have LW := hb.size
  replace ix := ix.below (Below.refl _ _).drew
  replace iy := iy.below (Below.refl _ _).drew
  replace hb := hb.drew
  refine wp_region_held_drew (S := Kept [] W) mixed (Kept.drew [] W) (fun hS => ?_)
  refine ha_val (i := 0) rfl (by kernel_rfl) (by kernel_rfl) (by kernel_rfl) (fun _ _ _ h => h) hS rfl (fun w' hw' => ex_row rfl (rowIv (hw'.look h0 (by simp <;> omega)))) ?_; try simp only [put_lit, List.set_cons_zero, List.set_cons_succ]
  refine ha_k (i := 1) rfl (by kernel_rfl) (by kernel_rfl) (by kernel_rfl) (fun _ _ _ _ h => h) hS rfl (fun K hK => ?_); go_simp; refine hK _ ?_; clear hK K; try simp only [put_lit, List.set_cons_zero, List.set_cons_succ]
  refine ha_val (i := 3) rfl (by kernel_rfl) (by kernel_rfl) (by kernel_rfl) (fun _ _ _ h => h) hS rfl (fun w' hw' => ex_row rfl (rowIv (hw'.look h1 (by simp <;> omega)))) ?_; try simp only [put_lit, List.set_cons_zero, List.set_cons_succ]
  refine ha_k (i := 4) rfl (by kernel_rfl) (by kernel_rfl) (by kernel_rfl) (fun _ _ _ _ h => h) hS rfl (fun K hK => ?_); go_simp; refine hK _ ?_; clear hK K; try simp only [put_lit, List.set_cons_zero, List.set_cons_succ]
  refine ha_call (i := 2) (by kernel_rfl) rfl rfl (fun K hK => ?_); go_simp; refine ⟨_, _, ⟨rfl, rfl⟩, hK _ _ ⟨_, PatI_any x _ _ n n1 n2 _ ix (by omega) v HV.out, ?_⟩⟩; clear hK K; rintro e w1 ⟨sp, rfl, hsp, hb1⟩; refine ⟨_, rfl, hS.below hb1, ?_⟩; replace hS := hS.below hb1; obtain ⟨g, cp, rfl, hg0, hg⟩ := own_words hsp n1; replace h0 := below_look hb1 h0; replace h1 := below_look hb1 h1; replace h2 := below_look hb1 h2; replace iy := iy.below hb1; replace hb := hb.trans (hb1.mono hb.size); clear hb1; try simp only [put_lit, List.set_cons_zero, List.set_cons_succ]
  refine ha_call (i := 5) (by kernel_rfl) rfl rfl (fun K hK => ?_); go_simp; refine ⟨_, _, ⟨rfl, rfl⟩, hK _ _ ⟨_, PatI_any y _ _ n n1 n2 _ iy (by omega) u HU.out, ?_⟩⟩; clear hK K; rintro e w2 ⟨sq, rfl, hsq, hb1⟩; refine ⟨_, rfl, hS.below hb1, ?_⟩; replace hS := hS.below hb1; obtain ⟨g', cq, rfl, hg0', hg'⟩ := own_words hsq n1; have LG := hg.lt; replace hg := hg.below hb1; replace h0 := below_look hb1 h0; replace h1 := below_look hb1 h1; replace h2 := below_look hb1 h2; replace hb := hb.trans (hb1.mono hb.size); clear hb1; try simp only [put_lit, List.set_cons_zero, List.set_cons_succ]
  refine ha_k (i := 6) rfl (by kernel_rfl) (by kernel_rfl) (by kernel_rfl) (fun _ _ _ _ h => h) hS rfl (fun K hK => ?_); go_simp; refine hK _ ?_; clear hK K; try simp only [put_lit, List.set_cons_zero, List.set_cons_succ]
  refine ha_k (i := 7) rfl (by kernel_rfl) (by kernel_rfl) (by kernel_rfl) (fun _ _ _ _ h => h) hS rfl (fun K hK => ?_); go_simp; refine hK _ ?_; clear hK K; try simp only [put_lit, List.set_cons_zero, List.set_cons_succ]
  refine wpAnyH_done (by kernel_rfl) ?_ _
  have hg2 : w.heap.size + 1 + 1 < g := by have : W.heap.size ≤ g := hg0; omega
  have hne : g ≠ g' := by omega
  clear LG hg0 hg0' ix iy L2 LW hsp hsq hS h0 h1
  go_wp2_with fail
  go_loopw [19] (fun i wr => ∃ k : Nat, k ≤ n ∧ i = .int .i64 (k : Int) ∧ WordsAt wr g n (fun j => if j < k then bt (v ||| u) j else bt v j) ∧ WordsAt wr g' n (bt u) ∧ wr.heap[w.heap.size + 1 + 1]? = some (.cells (iv 0 none 0) 84 (0, 0)) ∧ Below w.heap.size w wr) (fun i _ => (n - intOf i).toNat)
  case atStart => exact ⟨0, by omega, rfl, by simpa using hg, hg', h2, hb⟩
  case round =>
    clear h2 hg hg' hb
    obtain ⟨k, hk, rfl, hg, hg', h2, hb⟩ := hrel
    by_cases hlt : k < n
    · obtain ⟨cg, fg⟩ := hg.cell hlt
      have cg' := (hg'.cell hlt).1
      have LG := hg.lt
      have LG' := hg'.lt
      rw [if_neg (by omega)] at cg
      have HB := Lib.hid (bits_or v u k)
      obtain ⟨a, ha⟩ : ∃ a : Nat, a = bt v k := ⟨_, rfl⟩
      obtain ⟨b, hbb⟩ : ∃ b : Nat, b = bt u k := ⟨_, rfl⟩
      rw [← ha] at cg HB
      rw [← hbb] at cg' HB
      have hg1 := Lib.hid hg
      have hg2' := Lib.hid hg'
      clear ha hbb hg hg'
      go_upto_region 30 with (fail)
      replace hb := hb.drew
      refine wp_region_held_drew (S := Kept [g] wr) mixed (Kept.drew [g] wr) (fun hS => ?_)
      refine ha_k (i := 0) rfl (by kernel_rfl) (by kernel_rfl) (by kernel_rfl) (fun _ _ _ _ h => h) hS rfl (fun K hK => ?_); go_simp; refine hK _ ?_; clear hK K; try simp only [put_lit, List.set_cons_zero, List.set_cons_succ]
      refine ha_k (i := 1) rfl (by kernel_rfl) (by kernel_rfl) (by kernel_rfl) (fun _ _ _ _ h => h) hS rfl (fun K hK => ?_); go_simp; refine hK _ ?_; clear hK K; try simp only [put_lit, List.set_cons_zero, List.set_cons_succ]
      refine ha_k (i := 2) rfl (by kernel_rfl) (by kernel_rfl) (by kernel_rfl) (fun _ _ _ _ h => h) hS rfl (fun K hK => ?_); go_simp; refine hK _ ?_; clear hK K; try simp only [put_lit, List.set_cons_zero, List.set_cons_succ]
      refine ha_k (i := 3) rfl (by kernel_rfl) (by kernel_rfl) (by kernel_rfl) (fun _ _ _ _ h => h) hS rfl (fun K hK => ?_); go_simp; refine hK _ ?_; clear hK K; try simp only [put_lit, List.set_cons_zero, List.set_cons_succ]
      refine ha_k (i := 4) rfl (by kernel_rfl) (by kernel_rfl) (by kernel_rfl) (fun _ _ _ _ h => h) hS rfl (fun K hK => ?_); go_simp; refine hK _ ?_; clear hK K; try simp only [put_lit, List.set_cons_zero, List.set_cons_succ]
      refine ha_k (i := 6) rfl (by kernel_rfl) (by kernel_rfl) (by kernel_rfl) (fun _ _ _ _ h => h) hS rfl (fun K hK => ?_); go_simp; refine hK _ ?_; clear hK K; try simp only [put_lit, List.set_cons_zero, List.set_cons_succ]
      refine ha_k (i := 7) rfl (by kernel_rfl) (by kernel_rfl) (by kernel_rfl) (fun _ _ _ _ h => h) hS rfl (fun K hK => ?_); go_simp; refine hK _ ?_; clear hK K; try simp only [put_lit, List.set_cons_zero, List.set_cons_succ]
      refine ha_k (i := 8) rfl (by kernel_rfl) (by kernel_rfl) (by kernel_rfl) (fun _ _ _ _ h => h) hS rfl (fun K hK => ?_); go_simp; refine hK _ ?_; clear hK K; try simp only [put_lit, List.set_cons_zero, List.set_cons_succ]
      refine ha_val (i := 9) rfl (by kernel_rfl) (by kernel_rfl) (by kernel_rfl) (fun _ _ _ h => h) hS rfl (fun w' hw' => ex_one rfl (one121 (hw'.cell cg' (by simp <;> omega)))) ?_; try simp only [put_lit, List.set_cons_zero, List.set_cons_succ]
      refine ha_do (i := 5) (by kernel_rfl) rfl rfl (ex_one rfl (one121 cg)) hS ?_; try simp only [put_lit, List.set_cons_zero, List.set_cons_succ]
      refine ha_k (i := 10) rfl (by kernel_rfl) (by kernel_rfl) (by kernel_rfl) (fun _ _ _ _ h => h) hS rfl (fun K hK => ?_); go_simp; refine hK _ ?_; clear hK K; try simp only [put_lit, List.set_cons_zero, List.set_cons_succ]
      refine ha_k (i := 11) rfl (by kernel_rfl) (by kernel_rfl) (by kernel_rfl) (fun _ _ _ _ h => h) hS rfl (fun K hK => ?_); go_simp; refine hK _ ?_; clear hK K; try simp only [put_lit, List.set_cons_zero, List.set_cons_succ]
      refine ha_cell121 (i := 12) (by kernel_rfl) rfl rfl _ _ rfl ⟨g, k, none⟩ (bits .or .u32 (a : Int) (b : Int)) _ rfl rfl cg fg (hS.setCell (by simp) _ _) (fun hS => ?_); try simp only [put_lit, List.set_cons_zero, List.set_cons_succ]
      refine wpAnyH_done (by kernel_rfl) ?_ _
      rw [HB.out]
      clear cg cg' fg
      have hd := hg1.out
      have hd' := hg2'.out
      clear hS
      go_wp2_with fail
      go_roundw
      case rel => exact ⟨k + 1, by omega, by go_num, (WordsAt.set hd hlt (by rw [if_pos (by omega)]) (fun j hj => by by_cases h : j < k <;> simp [h, show (j < k + 1) = (j < k) by rw [eq_iff_iff]; omega])), hd'.other hne, hs_old h2 (by simp; omega), hb.setCell (by simp; omega) _⟩
      case measure => simp [intOf]; omega
    · obtain rfl : k = n := by omega
      have hbt := hg.bits (v := v ||| u) (fun j hj => by rw [if_pos hj])
      go_upto_region 31 with (fail)
      apply wp_region_lit
      refine wl_k rfl (fun K hK => ?_); go_simp; refine hK _ ?_; clear hK K
      refine wl_k rfl (fun K hK => ?_); go_simp; refine hK _ ?_; clear hK K
      refine wl_ck rfl (fun K hK => ?_); go_simp; refine ⟨_, _, ⟨rfl, rfl⟩, hK _ _ ⟨_, ValI_any g _ k s (v ||| u) n1 n2 HR.out _ hbt, ?_⟩⟩; clear hK K; rintro e w5 ⟨A2, c2, rfl, i2, hb1⟩; refine ⟨_, rfl, ?_⟩; simp only [put_lit, List.set_cons_zero, List.set_cons_succ]
      replace h2 := below_look hb1 h2; replace hb := hb.trans (hb1.mono hb.size); clear hb1
      ((with_reducible apply wl_putI); exact rfl; exact rfl; exact h2; intro w6 hbx hk hq hi; replace i2 := hi _ _ _ i2; replace hb := hbx _ _ (by omega) hb; clear h2; have h2 := hq; clear hbx hk hq hi)
      go_wp2_with fail
      exact bodyPost_ret (res_iv rfl _ _ (w.heap.size + 1 + 1) rfl h2) rfl ⟨_, _, rfl, i2, hb⟩
set_option maxHeartbeats 4000000 in
set_option maxRecDepth 100000 in
theorem exactI_xor (op : ByteArray) (n : Nat) (s : Bool) (x y : Int) (A A' : Option Addr) (c c' : Nat) (hop : op.data.toList = [94]) (n1 : 1 ≤ n) (n2 : n ≤ 64) (hx : x.natAbs ≤ 18446744073709551616) (hy : y.natAbs ≤ 18446744073709551616) (v u : Nat) (hv : (v : Int) = x % ((2 ^ n : Nat) : Int)) (hu : (u : Int) = y % ((2 ^ n : Nat) : Int)) (hr : (v ^^^ u) < 2 ^ n) (w : World) (hI : IvAt w x A c) (hJ : IvAt w y A' c') :
    Calls Try.prog 70 #[.string op, .agg (iv x A c), .agg (iv y A' c'), .int .i64 (n : Int), .bool s] w fun e w' => ∃ A2 c2, e = .returned (.agg (iv (wrapW n s ((v ^^^ u : Nat) : Int)) A2 c2)) ∧ IvAt w' (wrapW n s ((v ^^^ u : Nat) : Int)) A2 c2 ∧ Below w.heap.size w w' := by
  have HX := Lib.hid hI
  have HY := Lib.hid hJ
  have HV := Lib.hid hv
  have HU := Lib.hid hu
  have HR := Lib.hid hr
  have nx := nl_3 hx
  have ny := nl_3 hy
  clear hI hJ hv hu hr
  have l1 := lit_eq hop (l := [43]) rfl
  have l2 := lit_eq hop (l := [45]) rfl
  have l3 := lit_eq hop (l := [42]) rfl
  have l4 := lit_eq hop (l := [47]) rfl
  have l5 := lit_eq hop (l := [37]) rfl
  have l6 := lit_eq hop (l := [60, 60]) rfl
  have l7 := lit_eq hop (l := [62, 62]) rfl
  have l8 := lit_eq hop (l := [38]) rfl
  have l9 := lit_eq hop (l := [124]) rfl
  clear hop hx hy
  go_enter Try.func70, Try.ntmps70
  go_upto_region 1 with (fail)
  refine wp_world (fun W => W.heap[w.heap.size]? = some (.cells (iv x A c) 84 (0, 0)) ∧ W.heap[w.heap.size + 1]? = some (.cells (iv y A' c') 84 (0, 0)) ∧ W.heap[w.heap.size + 1 + 1]? = some (.cells (iv 0 none 0) 84 (0, 0)) ∧ Below w.heap.size w W) ⟨ha_old (ha_old (ha_new rfl)), ha_old (ha_new (by simp)), by rw [iv_zero]; exact ha_new (by simp), (((Below.refl _ _).alloc (Nat.le_refl _) _).alloc (by simp) _).alloc (by simp; omega) _⟩ ?_
  rintro W ⟨h0, h1, h2, hb⟩
  have ix := HX.out.below hb
  have iy := HY.out.below hb
  go_upto_region 21 with (fail)
  have L2 := heap_lt h2
  have LW := hb.size
  replace ix := ix.below (Below.refl _ _).drew
  replace iy := iy.below (Below.refl _ _).drew
  replace hb := hb.drew
  refine wp_region_held_drew (S := Kept [] W) mixed (Kept.drew [] W) (fun hS => ?_)
  refine ha_val (i := 0) rfl (by kernel_rfl) (by kernel_rfl) (by kernel_rfl) (fun _ _ _ h => h) hS rfl (fun w' hw' => ex_row rfl (rowIv (hw'.look h0 (by simp <;> omega)))) ?_; try simp only [put_lit, List.set_cons_zero, List.set_cons_succ]
  refine ha_k (i := 1) rfl (by kernel_rfl) (by kernel_rfl) (by kernel_rfl) (fun _ _ _ _ h => h) hS rfl (fun K hK => ?_); go_simp; refine hK _ ?_; clear hK K; try simp only [put_lit, List.set_cons_zero, List.set_cons_succ]
  refine ha_val (i := 3) rfl (by kernel_rfl) (by kernel_rfl) (by kernel_rfl) (fun _ _ _ h => h) hS rfl (fun w' hw' => ex_row rfl (rowIv (hw'.look h1 (by simp <;> omega)))) ?_; try simp only [put_lit, List.set_cons_zero, List.set_cons_succ]
  refine ha_k (i := 4) rfl (by kernel_rfl) (by kernel_rfl) (by kernel_rfl) (fun _ _ _ _ h => h) hS rfl (fun K hK => ?_); go_simp; refine hK _ ?_; clear hK K; try simp only [put_lit, List.set_cons_zero, List.set_cons_succ]
  refine ha_call (i := 2) (by kernel_rfl) rfl rfl (fun K hK => ?_); go_simp; refine ⟨_, _, ⟨rfl, rfl⟩, hK _ _ ⟨_, PatI_any x _ _ n n1 n2 _ ix (by omega) v HV.out, ?_⟩⟩; clear hK K; rintro e w1 ⟨sp, rfl, hsp, hb1⟩; refine ⟨_, rfl, hS.below hb1, ?_⟩; replace hS := hS.below hb1; obtain ⟨g, cp, rfl, hg0, hg⟩ := own_words hsp n1; replace h0 := below_look hb1 h0; replace h1 := below_look hb1 h1; replace h2 := below_look hb1 h2; replace iy := iy.below hb1; replace hb := hb.trans (hb1.mono hb.size); clear hb1; try simp only [put_lit, List.set_cons_zero, List.set_cons_succ]
  refine ha_call (i := 5) (by kernel_rfl) rfl rfl (fun K hK => ?_); go_simp; refine ⟨_, _, ⟨rfl, rfl⟩, hK _ _ ⟨_, PatI_any y _ _ n n1 n2 _ iy (by omega) u HU.out, ?_⟩⟩; clear hK K; rintro e w2 ⟨sq, rfl, hsq, hb1⟩; refine ⟨_, rfl, hS.below hb1, ?_⟩; replace hS := hS.below hb1; obtain ⟨g', cq, rfl, hg0', hg'⟩ := own_words hsq n1; have LG := hg.lt; replace hg := hg.below hb1; replace h0 := below_look hb1 h0; replace h1 := below_look hb1 h1; replace h2 := below_look hb1 h2; replace hb := hb.trans (hb1.mono hb.size); clear hb1; try simp only [put_lit, List.set_cons_zero, List.set_cons_succ]
  refine ha_k (i := 6) rfl (by kernel_rfl) (by kernel_rfl) (by kernel_rfl) (fun _ _ _ _ h => h) hS rfl (fun K hK => ?_); go_simp; refine hK _ ?_; clear hK K; try simp only [put_lit, List.set_cons_zero, List.set_cons_succ]
  refine ha_k (i := 7) rfl (by kernel_rfl) (by kernel_rfl) (by kernel_rfl) (fun _ _ _ _ h => h) hS rfl (fun K hK => ?_); go_simp; refine hK _ ?_; clear hK K; try simp only [put_lit, List.set_cons_zero, List.set_cons_succ]
  refine wpAnyH_done (by kernel_rfl) ?_ _
  have hg2 : w.heap.size + 1 + 1 < g := by have : W.heap.size ≤ g := hg0; omega
  have hne : g ≠ g' := by omega
  clear LG hg0 hg0' ix iy L2 LW hsp hsq hS h0 h1
  go_wp2_with fail
  go_loopw [19] (fun i wr => ∃ k : Nat, k ≤ n ∧ i = .int .i64 (k : Int) ∧ WordsAt wr g n (fun j => if j < k then bt (v ^^^ u) j else bt v j) ∧ WordsAt wr g' n (bt u) ∧ wr.heap[w.heap.size + 1 + 1]? = some (.cells (iv 0 none 0) 84 (0, 0)) ∧ Below w.heap.size w wr) (fun i _ => (n - intOf i).toNat)
  case atStart => exact ⟨0, by omega, rfl, by simpa using hg, hg', h2, hb⟩
  case round =>
    clear h2 hg hg' hb
    obtain ⟨k, hk, rfl, hg, hg', h2, hb⟩ := hrel
    by_cases hlt : k < n
    · obtain ⟨cg, fg⟩ := hg.cell hlt
      have cg' := (hg'.cell hlt).1
      have LG := hg.lt
      have LG' := hg'.lt
      rw [if_neg (by omega)] at cg
      have HB := Lib.hid (bits_xor v u k)
      obtain ⟨a, ha⟩ : ∃ a : Nat, a = bt v k := ⟨_, rfl⟩
      obtain ⟨b, hbb⟩ : ∃ b : Nat, b = bt u k := ⟨_, rfl⟩
      rw [← ha] at cg HB
      rw [← hbb] at cg' HB
      have hg1 := Lib.hid hg
      have hg2' := Lib.hid hg'
      clear ha hbb hg hg'
      go_upto_region 26 with (fail)
      replace hb := hb.drew
      refine wp_region_held_drew (S := Kept [g] wr) mixed (Kept.drew [g] wr) (fun hS => ?_)
      refine ha_k (i := 0) rfl (by kernel_rfl) (by kernel_rfl) (by kernel_rfl) (fun _ _ _ _ h => h) hS rfl (fun K hK => ?_); go_simp; refine hK _ ?_; clear hK K; try simp only [put_lit, List.set_cons_zero, List.set_cons_succ]
      refine ha_k (i := 1) rfl (by kernel_rfl) (by kernel_rfl) (by kernel_rfl) (fun _ _ _ _ h => h) hS rfl (fun K hK => ?_); go_simp; refine hK _ ?_; clear hK K; try simp only [put_lit, List.set_cons_zero, List.set_cons_succ]
      refine ha_k (i := 2) rfl (by kernel_rfl) (by kernel_rfl) (by kernel_rfl) (fun _ _ _ _ h => h) hS rfl (fun K hK => ?_); go_simp; refine hK _ ?_; clear hK K; try simp only [put_lit, List.set_cons_zero, List.set_cons_succ]
      refine ha_k (i := 3) rfl (by kernel_rfl) (by kernel_rfl) (by kernel_rfl) (fun _ _ _ _ h => h) hS rfl (fun K hK => ?_); go_simp; refine hK _ ?_; clear hK K; try simp only [put_lit, List.set_cons_zero, List.set_cons_succ]
      refine ha_k (i := 4) rfl (by kernel_rfl) (by kernel_rfl) (by kernel_rfl) (fun _ _ _ _ h => h) hS rfl (fun K hK => ?_); go_simp; refine hK _ ?_; clear hK K; try simp only [put_lit, List.set_cons_zero, List.set_cons_succ]
      refine ha_k (i := 6) rfl (by kernel_rfl) (by kernel_rfl) (by kernel_rfl) (fun _ _ _ _ h => h) hS rfl (fun K hK => ?_); go_simp; refine hK _ ?_; clear hK K; try simp only [put_lit, List.set_cons_zero, List.set_cons_succ]
      refine ha_k (i := 7) rfl (by kernel_rfl) (by kernel_rfl) (by kernel_rfl) (fun _ _ _ _ h => h) hS rfl (fun K hK => ?_); go_simp; refine hK _ ?_; clear hK K; try simp only [put_lit, List.set_cons_zero, List.set_cons_succ]
      refine ha_k (i := 8) rfl (by kernel_rfl) (by kernel_rfl) (by kernel_rfl) (fun _ _ _ _ h => h) hS rfl (fun K hK => ?_); go_simp; refine hK _ ?_; clear hK K; try simp only [put_lit, List.set_cons_zero, List.set_cons_succ]
      refine ha_val (i := 9) rfl (by kernel_rfl) (by kernel_rfl) (by kernel_rfl) (fun _ _ _ h => h) hS rfl (fun w' hw' => ex_one rfl (one121 (hw'.cell cg' (by simp <;> omega)))) ?_; try simp only [put_lit, List.set_cons_zero, List.set_cons_succ]
      refine ha_do (i := 5) (by kernel_rfl) rfl rfl (ex_one rfl (one121 cg)) hS ?_; try simp only [put_lit, List.set_cons_zero, List.set_cons_succ]
      refine ha_k (i := 10) rfl (by kernel_rfl) (by kernel_rfl) (by kernel_rfl) (fun _ _ _ _ h => h) hS rfl (fun K hK => ?_); go_simp; refine hK _ ?_; clear hK K; try simp only [put_lit, List.set_cons_zero, List.set_cons_succ]
      refine ha_k (i := 11) rfl (by kernel_rfl) (by kernel_rfl) (by kernel_rfl) (fun _ _ _ _ h => h) hS rfl (fun K hK => ?_); go_simp; refine hK _ ?_; clear hK K; try simp only [put_lit, List.set_cons_zero, List.set_cons_succ]
      refine ha_cell121 (i := 12) (by kernel_rfl) rfl rfl _ _ rfl ⟨g, k, none⟩ (bits .xor .u32 (a : Int) (b : Int)) _ rfl rfl cg fg (hS.setCell (by simp) _ _) (fun hS => ?_); try simp only [put_lit, List.set_cons_zero, List.set_cons_succ]
      refine wpAnyH_done (by kernel_rfl) ?_ _
      rw [HB.out]
      clear cg cg' fg
      have hd := hg1.out
      have hd' := hg2'.out
      clear hS
      go_wp2_with fail
      go_roundw
      case rel => exact ⟨k + 1, by omega, by go_num, (WordsAt.set hd hlt (by rw [if_pos (by omega)]) (fun j hj => by by_cases h : j < k <;> simp [h, show (j < k + 1) = (j < k) by rw [eq_iff_iff]; omega])), hd'.other hne, hs_old h2 (by simp; omega), hb.setCell (by simp; omega) _⟩
      case measure => simp [intOf]; omega
    · obtain rfl : k = n := by omega
      have hbt := hg.bits (v := v ^^^ u) (fun j hj => by rw [if_pos hj])
      go_upto_region 31 with (fail)
      apply wp_region_lit
      refine wl_k rfl (fun K hK => ?_); go_simp; refine hK _ ?_; clear hK K
      refine wl_k rfl (fun K hK => ?_); go_simp; refine hK _ ?_; clear hK K
      refine wl_ck rfl (fun K hK => ?_); go_simp; refine ⟨_, _, ⟨rfl, rfl⟩, hK _ _ ⟨_, ValI_any g _ k s (v ^^^ u) n1 n2 HR.out _ hbt, ?_⟩⟩; clear hK K; rintro e w5 ⟨A2, c2, rfl, i2, hb1⟩; refine ⟨_, rfl, ?_⟩; simp only [put_lit, List.set_cons_zero, List.set_cons_succ]
      replace h2 := below_look hb1 h2; replace hb := hb.trans (hb1.mono hb.size); clear hb1
      ((with_reducible apply wl_putI); exact rfl; exact rfl; exact h2; intro w6 hbx hk hq hi; replace i2 := hi _ _ _ i2; replace hb := hbx _ _ (by omega) hb; clear h2; have h2 := hq; clear hbx hk hq hi)
      go_wp2_with fail
      exact bodyPost_ret (res_iv rfl _ _ (w.heap.size + 1 + 1) rfl h2) rfl ⟨_, _, rfl, i2, hb⟩
end Go.Proofs.Ytclainfdeghgnaa
