/- Plain facts: quotient and rest give the dividend back. The law: quotient and rest give the dividend back; the rest is smaller than the divisor, and has the dividend's sign. -/
import Derived.Test.YtclainfdeghgnaaV13
import Derived.Outline
namespace Go.Proofs.Ytclainfdeghgnaa
open Go.RowKit Go.Proofs.Ytclainfdeghgnaa.Nm
theorem txt_ngC {z : Int} (h : ng z = true) : txt z = 45 :: txt (z.natAbs : Int) := by
  have h2 : ng (z.natAbs : Int) = false := by rw [ng_def]; simp
  unfold txt sgn
  rw [h, h2]
  simp
theorem txt_psC {z : Int} (h : ng z = false) : ∃ c l, txt z = c :: l ∧ c ≠ 45 := by
  obtain ⟨l, hl⟩ := dtxt_dlen z.natAbs
  refine ⟨_, l, ?_, dch_ne (dg_lt z.natAbs (dlen z.natAbs - 1))⟩
  unfold txt sgn
  rw [h]
  simpa using hl
theorem txt_0C : txt 0 = [48] := by
  unfold txt sgn
  rw [show ng 0 = false by rw [ng_def]; rfl, show (0 : Int).natAbs = 0 from rfl, dlen_small (by decide)]
  decide
theorem txt_1C {z : Int} (h : txt z = [48]) (hz : z.natAbs < 10 ^ 39) : z = 0 := by
  have h1 := rd_txt z hz
  rw [h] at h1
  have h2 : rd [48] = some 0 := by decide
  rw [h2] at h1
  exact (Option.some.inj h1).symm
/-- a text without its sign -/
def strip (m : ByteArray) (p : Bool) : ByteArray := if p then m.extract 1 m.size else m
theorem strip_rd {m : ByteArray} {z : Int} (h : m.data.toList = txt z) (hz : z.natAbs < 10 ^ 39) : rdm (strip m (ng z)) = some (z.natAbs : Int) := by
  unfold strip rdm
  cases hn : ng z
  · simp only [Bool.false_eq_true, if_false]
    rw [h]
    have : (z.natAbs : Int) = z := by rw [ng_def] at hn; have := of_decide_eq_false hn; omega
    rw [this]; exact rd_txt z hz
  · simp only [if_true]
    have e : (m.extract 1 m.size).data.toList = txt (z.natAbs : Int) := by
      have h1 : m.data.toList.length = m.size := by simp
      rw [txt_ngC hn] at h
      simp only [ByteArray.data_extract, Array.toList_extract, List.extract]
      rw [h]
      rw [h] at h1
      simp at h1
      simp [← h1]
    rw [e]
    exact rd_txt _ (by rw [Int.natAbs_natCast]; exact hz)
/-- what the quotient and the rest of two texts are, and what they give back -/
structure Gives (a b q r : ByteArray) (bits : Int) (s : Bool) (x y ρ : Int) : Prop where
  ha : a.data.toList = txt x
  hb : b.data.toList = txt y
  hr : r.data.toList = txt ρ
  bx : x.natAbs < 10 ^ 39
  bY : y.natAbs < 10 ^ 39
  bρ : ρ.natAbs < 10 ^ 39
  lt : ρ.natAbs < y.natAbs
  sg : ρ ≠ 0 → ng ρ = ng x
  back : wrapS (· + ·) ⟨(wrapS (· * ·) q b bits s).toArray⟩ r bits s = a.data.toList
theorem tmod_has {n : Nat} {s : Bool} {x y : Int} (hx : hasW n s x = true) (h1 : 1 ≤ n) (h2 : n ≤ 64) : hasW n s (x.tmod y) = true := by
  unfold hasW at hx ⊢
  rw [decide_eq_true_eq] at hx ⊢
  have l := lo_bd h2 s
  have h := hi_bd h1 h2 s
  rcases Int.lt_or_le x 0 with hn | hp
  · have e1 : x.tmod y ≤ 0 := by
      rw [show x = -(-x) by omega, Int.neg_tmod]
      have := Int.tmod_nonneg (a := -x) y (by omega); omega
    have e2 := Nat.mod_le x.natAbs y.natAbs
    rw [← Int.natAbs_tmod] at e2
    omega
  · have e1 := Int.tmod_nonneg (a := x) y hp
    have e2 := Nat.mod_le x.natAbs y.natAbs
    rw [← Int.natAbs_tmod] at e2
    omega
theorem tmod_sign {x y : Int} (h : x.tmod y ≠ 0) : ng (x.tmod y) = ng x := by
  rw [ng_def, ng_def]
  rcases Int.lt_or_le x 0 with hn | hp
  · have e1 : x.tmod y ≤ 0 := by
      rw [show x = -(-x) by omega, Int.neg_tmod]
      have := Int.tmod_nonneg (a := -x) y (by omega); omega
    simp [hn]; omega
  · have e1 := Int.tmod_nonneg (a := x) y hp
    simp; omega
theorem gives_err {a b q r m1 m2 : ByteArray} {bits e1 e2 : Int} {s : Bool} (hm1 : m1.data.toList = [119, 114, 97, 112]) (h1 : doS ⟨#[47]⟩ a b bits s m1 = (q, e1)) (h2 : doS ⟨#[37]⟩ a b bits s m2 = (r, e2)) (he : e1 ≠ 0) : e2 ≠ 0 := by
  intro h0
  subst h0
  obtain ⟨x, y, D, _, _⟩ := done_of h2
  have D1 : Done ⟨#[47]⟩ a b bits s m1 x y := ⟨D.hx, D.hy, D.hr, by rw [hm1]; decide, by decide, D.ix, D.iy, fun h => absurd h.1 (by decide), fun h => D.hz ⟨Or.inr rfl, h.2⟩⟩
  rw [D1.of, bring_wrapS bits s D.hr m1 hm1, if_pos rfl] at h1
  exact he (congrArg Prod.snd h1).symm
theorem gives_of {a b q r m1 m2 : ByteArray} {bits e2 : Int} {s : Bool} (hm1 : m1.data.toList = [119, 114, 97, 112]) (hm2 : m2.data.toList = [116, 114, 97, 112]) (h1 : doS ⟨#[47]⟩ a b bits s m1 = (q, 0)) (h2 : doS ⟨#[37]⟩ a b bits s m2 = (r, e2)) : e2 = 0 ∧ ∃ x y ρ, Gives a b q r bits s x y ρ := by
  obtain ⟨x, y, D, _, ht⟩ := done_of h1
  have hz : y ≠ 0 := fun e => D.hz ⟨Or.inl rfl, e⟩
  have D2 : Done ⟨#[37]⟩ a b bits s m2 x y := ⟨D.hx, D.hy, D.hr, by rw [hm2]; decide, by decide, D.ix, D.iy, fun h => absurd h.1 (by decide), fun h => hz h.2⟩
  obtain ⟨n, hn, n1, n2, n3⟩ := right_bits D.hr
  have hx := D.ix
  have hy := D.iy
  unfold hasI at hx hy
  rw [n3] at hx hy
  have hρ := tmod_has (y := y) hx n1 n2
  rw [D2.of, ByteArray.toList_eq, hm2] at h2
  rw [show doX (ByteArray.mk #[37]).data.toList bits.toNat s x y = x.tmod y from rfl, n3, bring_hasD hρ, if_pos rfl] at h2
  rw [bring_wrapS bits s D.hr m1 hm1, show doX (ByteArray.mk #[47]).data.toList bits.toNat s x y = x.tdiv y from rfl, n3] at ht
  simp only [Prod.mk.injEq] at h2
  obtain ⟨hr, he⟩ := h2
  subst hr ht
  have bx := has_bd n1 n2 hx
  have bY := has_bd n1 n2 hy
  have bρ := has_bd n1 n2 hρ
  refine ⟨he.symm, x, y, x.tmod y, (txt_rd (s := a.data.toList) D.hx).symm, (txt_rd (s := b.data.toList) D.hy).symm, by simp, small39 (by omega), small39 (by omega), small39 (by omega), ?_, tmod_sign, ?_⟩
  · rw [Int.natAbs_tmod]; exact Nat.mod_lt _ (by omega)
  · have w1 := wrap_has n1 s (x.tdiv y)
    have w1b := has_bd n1 n2 w1
    have w2 := wrap_has n1 s (wrapW n s (x.tdiv y) * y)
    have w2b := has_bd n1 n2 w2
    have a1 : argsOk ⟨(txt (wrapW n s (x.tdiv y))).toArray⟩ b bits s = some (wrapW n s (x.tdiv y), y) := by
      unfold argsOk
      rw [rdm_txt' (small39 (by omega)), D.hy]
      unfold hasI
      simp only
      rw [n3, D.hr, w1, hy]; rfl
    have a2 : argsOk ⟨(txt (wrapW n s (wrapW n s (x.tdiv y) * y))).toArray⟩ ⟨(txt (x.tmod y)).toArray⟩ bits s = some (wrapW n s (wrapW n s (x.tdiv y) * y), x.tmod y) := by
      unfold argsOk
      rw [rdm_txt' (small39 (by omega)), rdm_txt' (small39 (by omega))]
      unfold hasI
      simp only
      rw [n3, D.hr, w2, hρ]; rfl
    have e1 : wrapS (· * ·) ⟨(txt (wrapW n s (x.tdiv y))).toArray⟩ b bits s = txt (wrapW n s (wrapW n s (x.tdiv y) * y)) := by
      unfold wrapS; rw [a1]; simp only; rw [n3]
    rw [e1]
    have e2 : wrapS (· + ·) ⟨(txt (wrapW n s (wrapW n s (x.tdiv y) * y))).toArray⟩ ⟨(txt (x.tmod y)).toArray⟩ bits s = txt (wrapW n s (wrapW n s (wrapW n s (x.tdiv y) * y) + x.tmod y)) := by
      unfold wrapS; rw [a2]; simp only; rw [n3]
    rw [e2, wrap_mul_l, wrap_add_l, show x.tdiv y * y + x.tmod y = x by have := Int.tdiv_mul_add_tmod x y; omega, wrap_of_has n1 hx]
    exact txt_rd (s := a.data.toList) D.hx
end Go.Proofs.Ytclainfdeghgnaa

namespace Go.Proofs.Ytclainfdeghgnaa
open Go.RowKit Go.Proofs.Ytclainfdeghgnaa.Nm
set_option maxHeartbeats 1000000 in
theorem smaller_any (r b : ByteArray) (hr0 : 0 < r.size) (hb0 : 0 < b.size) (pr pb : Bool) (h1 : ((r[0].toNat : Int) == 45) = pr) (h2 : ((b[0].toNat : Int) == 45) = pb) (n : Int) (hn : n < 0) (HC : Hid (compS (strip r pr) (strip b pb) = (n, 0))) (w : World) :
    Calls Try.prog 33 #[.string r, .string b] w fun e w' => e = .returned (.bool true) ∧ Below w.heap.size w w' := by
  have hb := Below.refl w.heap.size w
  cases pr <;> cases pb
  all_goals
    simp only [strip, if_true, Bool.false_eq_true, if_false] at HC
    go_enter Try.func33, Try.ntmps33
    go_wp2_with (go_at_call 27; refine (Compare_any _ _ _ _ HC _).mono ?_; rintro e w9 ⟨rfl, hb1⟩; replace hb := hb.trans (hb1.mono hb.size); clear hb1)
    go_ret
    exact ⟨rfl, hb⟩
theorem first_of {m : ByteArray} {c : UInt8} {l : List UInt8} (h : m.data.toList = c :: l) : ∃ h0 : 0 < m.size, m[0] = c := by
  have hs : m.size = (c :: l).length := by rw [← h]; simp
  have h0 : 0 < m.size := by rw [hs]; simp
  refine ⟨h0, ?_⟩
  have : m.data.toList[0]'(by rw [h]; simp) = c := by simp [h]
  rw [← this]; rfl
theorem first_txt {m : ByteArray} {z : Int} (h : m.data.toList = txt z) : ∃ h0 : 0 < m.size, ((m[0].toNat : Int) == 45) = ng z := by
  cases hn : ng z
  · obtain ⟨c, l, hl, hc⟩ := txt_psC hn
    obtain ⟨h0, h1⟩ := first_of (h.trans hl)
    refine ⟨h0, ?_⟩
    rw [h1, beq_eq_false_iff_ne]
    exact fun e => hc (UInt8.toNat_inj.1 (by show c.toNat = 45; omega))
  · obtain ⟨h0, h1⟩ := first_of (h.trans (txt_ngC hn))
    refine ⟨h0, ?_⟩
    rw [h1]; rfl
theorem comp_of {a b : ByteArray} {x y : Int} (h1 : rdm a = some x) (h2 : rdm b = some y) : compS a b = (cz x y, 0) := by
  unfold compS; rw [h1, h2]; rfl
set_option maxHeartbeats 2000000 in
set_option maxRecDepth 100000 in
theorem GB_err (a b : ByteArray) (n : Int) (s : Bool) (md : ByteArray) (LA : Hid (decide (200 < a.size) = false)) (LB : Hid (decide (200 < b.size) = false)) (q r : ByteArray) (e1 e2 : Int) (HQ : Hid (doS ⟨#[47]⟩ a b n s ⟨#[119, 114, 97, 112]⟩ = (q, e1))) (HR : Hid (doS ⟨#[37]⟩ a b n s ⟨#[116, 114, 97, 112]⟩ = (r, e2))) (h1 : (e1 != 0) = true) (h2 : (e2 != 0) = true) (w : World) :
    Calls Try.prog 9 #[.string a, .string b, .agg (kvB n s md)] w fun e w' => e = .returned (.bool true) ∧ Below w.heap.size w w' := by
  go_enter Try.func9, Try.ntmps9
  go_upto_region 1 with (fail)
  refine wp_world (fun W => W.heap[w.heap.size]? = some (.cells (kvB n s md) 25 (0, 0)) ∧ Below w.heap.size w W) ⟨ha_new rfl, (Below.refl _ _).alloc (Nat.le_refl _) _⟩ ?_
  rintro W ⟨h0, hb⟩
  apply wp_region_lit
  refine wl_k rfl (fun K hK => ?_); go_simp; refine hK _ ?_; clear hK K
  refine wl_ck rfl (fun K hK => ?_); go_simp; refine ⟨_, _, ⟨rfl, rfl⟩, hK _ _ ⟨_, longs a _ _ LA, ?_⟩⟩; clear hK K; rintro e w1 ⟨rfl, hb1⟩; refine ⟨_, rfl, ?_⟩; simp only [put_lit, List.set_cons_zero, List.set_cons_succ]
  replace h0 := below_look hb1 h0; replace hb := hb.trans (hb1.mono hb.size); clear hb1
  refine wl_k rfl (fun K hK => ?_); go_simp; refine hK _ ?_; clear hK K
  refine wl_k rfl (fun K hK => ?_); go_simp; refine hK _ ?_; clear hK K
  refine wl_ck rfl (fun K hK => ?_); go_simp; refine ⟨_, _, ⟨rfl, rfl⟩, hK _ _ ⟨_, longs b _ _ LB, ?_⟩⟩; clear hK K; rintro e w2 ⟨rfl, hb1⟩; refine ⟨_, rfl, ?_⟩; simp only [put_lit, List.set_cons_zero, List.set_cons_succ]
  replace h0 := below_look hb1 h0; replace hb := hb.trans (hb1.mono hb.size); clear hb1
  refine wl_k rfl (fun K hK => ?_); go_simp; refine hK _ ?_; clear hK K
  go_upto_region 3 with (fail)
  apply wp_region_lit
  refine wl_k rfl (fun K hK => ?_); go_simp; refine hK _ ?_; clear hK K
  refine wl_k rfl (fun K hK => ?_); go_simp; refine hK _ ?_; clear hK K
  refine wl_k rfl (fun K hK => ?_); go_simp; refine hK _ ?_; clear hK K
  ((with_reducible apply wl_oneG); exact rfl; exact rfl; exact one_of u3 rfl (kv0 h0))
  refine wl_k rfl (fun K hK => ?_); go_simp; refine hK _ ?_; clear hK K
  ((with_reducible apply wl_oneG); exact rfl; exact rfl; exact one_of u4 rfl (kv1 h0))
  refine wl_ck rfl (fun K hK => ?_); go_simp; refine ⟨_, _, ⟨rfl, rfl⟩, hK _ _ ⟨_, Do_any _ _ _ _ _ _ _ _ HQ _, ?_⟩⟩; clear hK K; rintro e w3 ⟨rfl, hb1⟩; refine ⟨_, rfl, ?_⟩; simp only [put_lit, List.set_cons_zero, List.set_cons_succ]
  replace h0 := below_look hb1 h0; replace hb := hb.trans (hb1.mono hb.size); clear hb1
  go_upto_region 4 with (fail)
  apply wp_region_lit
  refine wl_k rfl (fun K hK => ?_); go_simp; refine hK _ ?_; clear hK K
  refine wl_k rfl (fun K hK => ?_); go_simp; refine hK _ ?_; clear hK K
  refine wl_k rfl (fun K hK => ?_); go_simp; refine hK _ ?_; clear hK K
  ((with_reducible apply wl_oneG); exact rfl; exact rfl; exact one_of u3 rfl (kv0 h0))
  refine wl_k rfl (fun K hK => ?_); go_simp; refine hK _ ?_; clear hK K
  ((with_reducible apply wl_oneG); exact rfl; exact rfl; exact one_of u4 rfl (kv1 h0))
  refine wl_ck rfl (fun K hK => ?_); go_simp; refine ⟨_, _, ⟨rfl, rfl⟩, hK _ _ ⟨_, Do_any _ _ _ _ _ _ _ _ HR _, ?_⟩⟩; clear hK K; rintro e w3 ⟨rfl, hb1⟩; refine ⟨_, rfl, ?_⟩; simp only [put_lit, List.set_cons_zero, List.set_cons_succ]
  replace h0 := below_look hb1 h0; replace hb := hb.trans (hb1.mono hb.size); clear hb1
  go_wp2_with (go_at_call 21; refine (awake_any _).mono ?_; rintro e w9 ⟨rfl, hb1⟩; replace hb := hb.trans (hb1.mono hb.size); clear hb1)
  go_ret
  exact ⟨rfl, hb⟩
set_option maxHeartbeats 8000000 in
set_option maxRecDepth 100000 in
theorem GB_ok (a b : ByteArray) (n : Int) (s : Bool) (md : ByteArray) (LA : Hid (decide (200 < a.size) = false)) (LB : Hid (decide (200 < b.size) = false)) (q r : ByteArray) (HQ : Hid (doS ⟨#[47]⟩ a b n s ⟨#[119, 114, 97, 112]⟩ = (q, 0))) (HR : Hid (doS ⟨#[37]⟩ a b n s ⟨#[116, 114, 97, 112]⟩ = (r, 0))) (x y ρ : Int) (G : Gives a b q r n s x y ρ) (w : World) :
    Calls Try.prog 9 #[.string a, .string b, .agg (kvB n s md)] w fun e w' => e = .returned (.bool true) ∧ Below w.heap.size w w' := by
  obtain ⟨ra0, ra1⟩ := first_txt G.ha
  obtain ⟨rb0, rb1⟩ := first_txt G.hb
  obtain ⟨rr0, rr1⟩ := first_txt G.hr
  have HB1 := Lib.hid rb1
  have HT : Hid ((⟨(wrapS (· + ·) ⟨(wrapS (· * ·) q b n s).toArray⟩ r n s).toArray⟩ : ByteArray) = a) := Lib.hid (by rw [G.back])
  have K1 := Lib.hid (fun W => wrapped_any (known_mul ⟨#[42]⟩ rfl) q b md n s W)
  have K2 := Lib.hid (fun W => wrapped_any (known_add ⟨#[43]⟩ rfl) ⟨(wrapS (· * ·) q b n s).toArray⟩ r md n s W)
  rw [HT.out] at K2
  generalize (⟨(wrapS (· * ·) q b n s).toArray⟩ : ByteArray) = T1 at K1 K2
  have na : ((a.size : Int) == 0) = false := by rw [beq_eq_false_iff_ne]; omega
  have nr : ((r.size : Int) == 0) = false := by rw [beq_eq_false_iff_ne]; omega
  have hcomp : ρ.natAbs < y.natAbs → compS (strip r (ng ρ)) (strip b (ng y)) = (-1, 0) := fun h => by
    rw [comp_of (strip_rd G.hr G.bρ) (strip_rd G.hb G.bY), cz_def, if_pos (by omega)]
  have HCC := Lib.hid (hcomp G.lt)
  clear hcomp HT rb1
  have hr48 : (r.toList == [48]) = decide (ρ = 0) := by
    rw [ByteArray.toList_eq, G.hr, Bool.eq_iff_iff, beq_iff_eq, decide_eq_true_eq]
    exact ⟨fun h => txt_1C h G.bρ, fun h => by rw [h]; exact txt_0C⟩
  have HS : Hid (ρ ≠ 0 → ng ρ = ng x) := Lib.hid G.sg
  clear G
  by_cases hz : ρ = 0
  · rw [decide_eq_true hz] at hr48
    clear hz ra1 rr1
    go_enter Try.func9, Try.ntmps9
    go_upto_region 1 with (fail)
    refine wp_world (fun W => W.heap[w.heap.size]? = some (.cells (kvB n s md) 25 (0, 0)) ∧ Below w.heap.size w W) ⟨ha_new rfl, (Below.refl _ _).alloc (Nat.le_refl _) _⟩ ?_
    rintro W ⟨h0, hb⟩
    apply wp_region_lit
    refine wl_k rfl (fun K hK => ?_); go_simp; refine hK _ ?_; clear hK K
    refine wl_ck rfl (fun K hK => ?_); go_simp; refine ⟨_, _, ⟨rfl, rfl⟩, hK _ _ ⟨_, longs a _ _ LA, ?_⟩⟩; clear hK K; rintro e w1 ⟨rfl, hb1⟩; refine ⟨_, rfl, ?_⟩; simp only [put_lit, List.set_cons_zero, List.set_cons_succ]
    replace h0 := below_look hb1 h0; replace hb := hb.trans (hb1.mono hb.size); clear hb1
    refine wl_k rfl (fun K hK => ?_); go_simp; refine hK _ ?_; clear hK K
    refine wl_k rfl (fun K hK => ?_); go_simp; refine hK _ ?_; clear hK K
    refine wl_ck rfl (fun K hK => ?_); go_simp; refine ⟨_, _, ⟨rfl, rfl⟩, hK _ _ ⟨_, longs b _ _ LB, ?_⟩⟩; clear hK K; rintro e w2 ⟨rfl, hb1⟩; refine ⟨_, rfl, ?_⟩; simp only [put_lit, List.set_cons_zero, List.set_cons_succ]
    replace h0 := below_look hb1 h0; replace hb := hb.trans (hb1.mono hb.size); clear hb1
    refine wl_k rfl (fun K hK => ?_); go_simp; refine hK _ ?_; clear hK K
    go_upto_region 3 with (fail)
    apply wp_region_lit
    refine wl_k rfl (fun K hK => ?_); go_simp; refine hK _ ?_; clear hK K
    refine wl_k rfl (fun K hK => ?_); go_simp; refine hK _ ?_; clear hK K
    refine wl_k rfl (fun K hK => ?_); go_simp; refine hK _ ?_; clear hK K
    ((with_reducible apply wl_oneG); exact rfl; exact rfl; exact one_of u3 rfl (kv0 h0))
    refine wl_k rfl (fun K hK => ?_); go_simp; refine hK _ ?_; clear hK K
    ((with_reducible apply wl_oneG); exact rfl; exact rfl; exact one_of u4 rfl (kv1 h0))
    refine wl_ck rfl (fun K hK => ?_); go_simp; refine ⟨_, _, ⟨rfl, rfl⟩, hK _ _ ⟨_, Do_any _ _ _ _ _ _ _ _ HQ _, ?_⟩⟩; clear hK K; rintro e w3 ⟨rfl, hb1⟩; refine ⟨_, rfl, ?_⟩; simp only [put_lit, List.set_cons_zero, List.set_cons_succ]
    replace h0 := below_look hb1 h0; replace hb := hb.trans (hb1.mono hb.size); clear hb1
    go_upto_region 4 with (fail)
    apply wp_region_lit
    refine wl_k rfl (fun K hK => ?_); go_simp; refine hK _ ?_; clear hK K
    refine wl_k rfl (fun K hK => ?_); go_simp; refine hK _ ?_; clear hK K
    refine wl_k rfl (fun K hK => ?_); go_simp; refine hK _ ?_; clear hK K
    ((with_reducible apply wl_oneG); exact rfl; exact rfl; exact one_of u3 rfl (kv0 h0))
    refine wl_k rfl (fun K hK => ?_); go_simp; refine hK _ ?_; clear hK K
    ((with_reducible apply wl_oneG); exact rfl; exact rfl; exact one_of u4 rfl (kv1 h0))
    refine wl_ck rfl (fun K hK => ?_); go_simp; refine ⟨_, _, ⟨rfl, rfl⟩, hK _ _ ⟨_, Do_any _ _ _ _ _ _ _ _ HR _, ?_⟩⟩; clear hK K; rintro e w3 ⟨rfl, hb1⟩; refine ⟨_, rfl, ?_⟩; simp only [put_lit, List.set_cons_zero, List.set_cons_succ]
    replace h0 := below_look hb1 h0; replace hb := hb.trans (hb1.mono hb.size); clear hb1
    go_upto_region 7 with (fail)
    replace hb := hb.drew
    refine wp_region_held_drew (S := Kept [] w3) mixed (Kept.drew [] w3) (fun hS => ?_)
    refine ha_k (i := 0) rfl (by kernel_rfl) (by kernel_rfl) (by kernel_rfl) (fun _ _ _ _ h => h) hS rfl (fun K hK => ?_); go_simp; refine hK _ ?_; clear hK K; try simp only [put_lit, List.set_cons_zero, List.set_cons_succ]
    refine ha_k (i := 1) rfl (by kernel_rfl) (by kernel_rfl) (by kernel_rfl) (fun _ _ _ _ h => h) hS rfl (fun K hK => ?_); go_simp; refine hK _ ?_; clear hK K; try simp only [put_lit, List.set_cons_zero, List.set_cons_succ]
    refine ha_k (i := 2) rfl (by kernel_rfl) (by kernel_rfl) (by kernel_rfl) (fun _ _ _ _ h => h) hS rfl (fun K hK => ?_); go_simp; refine hK _ ?_; clear hK K; try simp only [put_lit, List.set_cons_zero, List.set_cons_succ]
    refine ha_k (i := 3) rfl (by kernel_rfl) (by kernel_rfl) (by kernel_rfl) (fun _ _ _ _ h => h) hS rfl (fun K hK => ?_); go_simp; refine hK _ ?_; clear hK K; try simp only [put_lit, List.set_cons_zero, List.set_cons_succ]
    refine ha_k (i := 4) rfl (by kernel_rfl) (by kernel_rfl) (by kernel_rfl) (fun _ _ _ _ h => h) hS rfl (fun K hK => ?_); go_simp; refine hK _ ?_; clear hK K; try simp only [put_lit, List.set_cons_zero, List.set_cons_succ]
    refine ha_k (i := 5) rfl (by kernel_rfl) (by kernel_rfl) (by kernel_rfl) (fun _ _ _ _ h => h) hS rfl (fun K hK => ?_); go_simp; refine hK _ ?_; clear hK K; try simp only [put_lit, List.set_cons_zero, List.set_cons_succ]
    refine ha_k (i := 6) rfl (by kernel_rfl) (by kernel_rfl) (by kernel_rfl) (fun _ _ _ _ h => h) hS rfl (fun K hK => ?_); go_simp; refine hK _ ?_; clear hK K; try simp only [put_lit, List.set_cons_zero, List.set_cons_succ]
    refine ha_k (i := 7) rfl (by kernel_rfl) (by kernel_rfl) (by kernel_rfl) (fun _ _ _ _ h => h) hS rfl (fun K hK => ?_); go_simp; refine hK _ ?_; clear hK K; try simp only [put_lit, List.set_cons_zero, List.set_cons_succ]
    refine ha_k (i := 8) rfl (by kernel_rfl) (by kernel_rfl) (by kernel_rfl) (fun _ _ _ _ h => h) hS rfl (fun K hK => ?_); go_simp; refine hK _ ?_; clear hK K; try simp only [put_lit, List.set_cons_zero, List.set_cons_succ]
    refine ha_k (i := 9) rfl (by kernel_rfl) (by kernel_rfl) (by kernel_rfl) (fun _ _ _ _ h => h) hS rfl (fun K hK => ?_); go_simp; refine hK _ ?_; clear hK K; try simp only [put_lit, List.set_cons_zero, List.set_cons_succ]
    refine ha_k (i := 10) rfl (by kernel_rfl) (by kernel_rfl) (by kernel_rfl) (fun _ _ _ _ h => h) hS rfl (fun K hK => ?_); go_simp; refine hK _ ?_; clear hK K; try simp only [put_lit, List.set_cons_zero, List.set_cons_succ]
    refine ha_k (i := 11) rfl (by kernel_rfl) (by kernel_rfl) (by kernel_rfl) (fun _ _ _ _ h => h) hS rfl (fun K hK => ?_); go_simp; refine hK _ ?_; clear hK K; try simp only [put_lit, List.set_cons_zero, List.set_cons_succ]
    refine ha_k (i := 12) rfl (by kernel_rfl) (by kernel_rfl) (by kernel_rfl) (fun _ _ _ _ h => h) hS rfl (fun K hK => ?_); go_simp; refine hK _ ?_; clear hK K; try simp only [put_lit, List.set_cons_zero, List.set_cons_succ]
    refine ha_k (i := 13) rfl (by kernel_rfl) (by kernel_rfl) (by kernel_rfl) (fun _ _ _ _ h => h) hS rfl (fun K hK => ?_); go_simp; refine hK _ ?_; clear hK K; try simp only [put_lit, List.set_cons_zero, List.set_cons_succ]
    refine ha_k (i := 14) rfl (by kernel_rfl) (by kernel_rfl) (by kernel_rfl) (fun _ _ _ _ h => h) hS rfl (fun K hK => ?_); go_simp; refine hK _ ?_; clear hK K; try simp only [put_lit, List.set_cons_zero, List.set_cons_succ]
    refine ha_val (i := 15) rfl (by kernel_rfl) (by kernel_rfl) (by kernel_rfl) (fun _ _ _ h => h) hS rfl (fun w' hw' => ex_row rfl (rowKvB (hw'.look h0 (by simp <;> omega)))) ?_; try simp only [put_lit, List.set_cons_zero, List.set_cons_succ]
    refine ha_k (i := 17) rfl (by kernel_rfl) (by kernel_rfl) (by kernel_rfl) (fun _ _ _ _ h => h) hS rfl (fun K hK => ?_); go_simp; refine hK _ ?_; clear hK K; try simp only [put_lit, List.set_cons_zero, List.set_cons_succ]
    refine ha_val (i := 18) rfl (by kernel_rfl) (by kernel_rfl) (by kernel_rfl) (fun _ _ _ h => h) hS rfl (fun w' hw' => ex_row rfl (rowKvB (hw'.look h0 (by simp <;> omega)))) ?_; try simp only [put_lit, List.set_cons_zero, List.set_cons_succ]
    refine ha_k (i := 20) rfl (by kernel_rfl) (by kernel_rfl) (by kernel_rfl) (fun _ _ _ _ h => h) hS rfl (fun K hK => ?_); go_simp; refine hK _ ?_; clear hK K; try simp only [put_lit, List.set_cons_zero, List.set_cons_succ]
    refine ha_call (i := 16) (by kernel_rfl) rfl rfl (fun K hK => ?_); go_simp; refine ⟨_, _, ⟨rfl, rfl⟩, hK _ _ ⟨_, K1.out _, ?_⟩⟩; clear hK K; rintro e w4 ⟨rfl, hb1⟩; refine ⟨_, rfl, hS.below hb1, ?_⟩; replace hS := hS.below hb1; replace h0 := below_look hb1 h0; replace hb := hb.trans (hb1.mono hb.size); clear hb1; try simp only [put_lit, List.set_cons_zero, List.set_cons_succ]
    refine ha_call (i := 19) (by kernel_rfl) rfl rfl (fun K hK => ?_); go_simp; refine ⟨_, _, ⟨rfl, rfl⟩, hK _ _ ⟨_, K2.out _, ?_⟩⟩; clear hK K; rintro e w5 ⟨rfl, hb1⟩; refine ⟨_, rfl, hS.below hb1, ?_⟩; replace hS := hS.below hb1; replace h0 := below_look hb1 h0; replace hb := hb.trans (hb1.mono hb.size); clear hb1; try simp only [put_lit, List.set_cons_zero, List.set_cons_succ]
    refine ha_k (i := 21) rfl (by kernel_rfl) (by kernel_rfl) (by kernel_rfl) (fun _ _ _ _ h => h) hS rfl (fun K hK => ?_); go_simp; refine hK _ ?_; clear hK K; try simp only [put_lit, List.set_cons_zero, List.set_cons_succ]
    refine ha_k (i := 22) rfl (by kernel_rfl) (by kernel_rfl) (by kernel_rfl) (fun _ _ _ _ h => h) hS rfl (fun K hK => ?_); go_simp; refine hK _ ?_; clear hK K; try simp only [put_lit, List.set_cons_zero, List.set_cons_succ]
    refine wpAnyH_done (by kernel_rfl) ?_ _
    clear hS
    go_upto_region 9 with (fail)
    clear h0
    replace hb := hb.drew
    refine wp_region_held_drew (S := Kept [] w5) mixed (Kept.drew [] w5) (fun hS => ?_)
    refine ha_k (i := 0) rfl (by kernel_rfl) (by kernel_rfl) (by kernel_rfl) (fun _ _ _ _ h => h) hS rfl (fun K hK => ?_); go_simp; refine hK _ ?_; clear hK K; try simp only [put_lit, List.set_cons_zero, List.set_cons_succ]
    refine ha_k (i := 1) rfl (by kernel_rfl) (by kernel_rfl) (by kernel_rfl) (fun _ _ _ _ h => h) hS rfl (fun K hK => ?_); go_simp; refine hK _ ?_; clear hK K; try simp only [put_lit, List.set_cons_zero, List.set_cons_succ]
    refine ha_k (i := 2) rfl (by kernel_rfl) (by kernel_rfl) (by kernel_rfl) (fun _ _ _ _ h => h) hS rfl (fun K hK => ?_); go_simp; refine hK _ ?_; clear hK K; try simp only [put_lit, List.set_cons_zero, List.set_cons_succ]
    refine ha_skip (i := 3) rfl (by kernel_rfl) (by kernel_rfl) (by kernel_rfl) (fun _ _ _ h => h) hS rfl ?_; simp only [List.getElem_toArray, List.getElem_cons_succ, List.getElem_cons_zero, put_lit, List.set_cons_zero, List.set_cons_succ]
    refine ha_skip (i := 4) rfl (by kernel_rfl) (by kernel_rfl) (by kernel_rfl) (fun _ _ _ h => h) hS rfl ?_; simp only [List.getElem_toArray, List.getElem_cons_succ, List.getElem_cons_zero, put_lit, List.set_cons_zero, List.set_cons_succ]
    refine ha_skip (i := 5) rfl (by kernel_rfl) (by kernel_rfl) (by kernel_rfl) (fun _ _ _ h => h) hS rfl ?_; simp only [List.getElem_toArray, List.getElem_cons_succ, List.getElem_cons_zero, put_lit, List.set_cons_zero, List.set_cons_succ]
    refine ha_skip (i := 6) rfl (by kernel_rfl) (by kernel_rfl) (by kernel_rfl) (fun _ _ _ h => h) hS rfl ?_; simp only [List.getElem_toArray, List.getElem_cons_succ, List.getElem_cons_zero, put_lit, List.set_cons_zero, List.set_cons_succ]
    refine ha_skip (i := 7) rfl (by kernel_rfl) (by kernel_rfl) (by kernel_rfl) (fun _ _ _ h => h) hS rfl ?_; simp only [List.getElem_toArray, List.getElem_cons_succ, List.getElem_cons_zero, put_lit, List.set_cons_zero, List.set_cons_succ]
    refine ha_skip (i := 8) rfl (by kernel_rfl) (by kernel_rfl) (by kernel_rfl) (fun _ _ _ h => h) hS rfl ?_; simp only [List.getElem_toArray, List.getElem_cons_succ, List.getElem_cons_zero, put_lit, List.set_cons_zero, List.set_cons_succ]
    refine ha_skip (i := 9) rfl (by kernel_rfl) (by kernel_rfl) (by kernel_rfl) (fun _ _ _ h => h) hS rfl ?_; simp only [List.getElem_toArray, List.getElem_cons_succ, List.getElem_cons_zero, put_lit, List.set_cons_zero, List.set_cons_succ]
    refine ha_skip (i := 10) rfl (by kernel_rfl) (by kernel_rfl) (by kernel_rfl) (fun _ _ _ h => h) hS rfl ?_; simp only [List.getElem_toArray, List.getElem_cons_succ, List.getElem_cons_zero, put_lit, List.set_cons_zero, List.set_cons_succ]
    refine ha_skip (i := 11) rfl (by kernel_rfl) (by kernel_rfl) (by kernel_rfl) (fun _ _ _ h => h) hS rfl ?_; simp only [List.getElem_toArray, List.getElem_cons_succ, List.getElem_cons_zero, put_lit, List.set_cons_zero, List.set_cons_succ]
    refine ha_skip (i := 12) rfl (by kernel_rfl) (by kernel_rfl) (by kernel_rfl) (fun _ _ _ h => h) hS rfl ?_; simp only [List.getElem_toArray, List.getElem_cons_succ, List.getElem_cons_zero, put_lit, List.set_cons_zero, List.set_cons_succ]
    refine ha_skip (i := 13) rfl (by kernel_rfl) (by kernel_rfl) (by kernel_rfl) (fun _ _ _ h => h) hS rfl ?_; simp only [List.getElem_toArray, List.getElem_cons_succ, List.getElem_cons_zero, put_lit, List.set_cons_zero, List.set_cons_succ]
    refine ha_skip (i := 14) rfl (by kernel_rfl) (by kernel_rfl) (by kernel_rfl) (fun _ _ _ h => h) hS rfl ?_; simp only [List.getElem_toArray, List.getElem_cons_succ, List.getElem_cons_zero, put_lit, List.set_cons_zero, List.set_cons_succ]
    refine ha_k (i := 15) rfl (by kernel_rfl) (by kernel_rfl) (by kernel_rfl) (fun _ _ _ _ h => h) hS rfl (fun K hK => ?_); go_simp; refine hK _ ?_; clear hK K; try simp only [put_lit, List.set_cons_zero, List.set_cons_succ]
    refine ha_k (i := 16) rfl (by kernel_rfl) (by kernel_rfl) (by kernel_rfl) (fun _ _ _ _ h => h) hS rfl (fun K hK => ?_); go_simp; refine hK _ ?_; clear hK K; try simp only [put_lit, List.set_cons_zero, List.set_cons_succ]
    refine ha_call (i := 17) (by kernel_rfl) rfl rfl (fun K hK => ?_); go_simp; refine ⟨_, _, ⟨rfl, rfl⟩, hK _ _ ⟨_, awake_any _, ?_⟩⟩; clear hK K; rintro e w9 ⟨rfl, hb1⟩; refine ⟨_, rfl, hS.below hb1, ?_⟩; replace hS := hS.below hb1; replace hb := hb.trans (hb1.mono hb.size); clear hb1; try simp only [put_lit, List.set_cons_zero, List.set_cons_succ]
    refine ha_k (i := 18) rfl (by kernel_rfl) (by kernel_rfl) (by kernel_rfl) (fun _ _ _ _ h => h) hS rfl (fun K hK => ?_); go_simp; refine hK _ ?_; clear hK K; try simp only [put_lit, List.set_cons_zero, List.set_cons_succ]
    refine ha_k (i := 19) rfl (by kernel_rfl) (by kernel_rfl) (by kernel_rfl) (fun _ _ _ _ h => h) hS rfl (fun K hK => ?_); go_simp; refine hK _ ?_; clear hK K; try simp only [put_lit, List.set_cons_zero, List.set_cons_succ]
    refine wpAnyH_done (by kernel_rfl) ?_ _
    go_wp2_with fail
    go_ret
    exact ⟨rfl, hb⟩
  · rw [decide_eq_false hz] at hr48
    have e := HS.out hz
    clear hz
    cases hx : ng x
    all_goals
      rw [hx] at ra1 e
      rw [e] at rr1 HCC
      clear e hx
      have hsm := Lib.hid (fun W => smaller_any r b rr0 rb0 _ (ng y) rr1 HB1.out (-1) (by decide) HCC W)
      go_enter Try.func9, Try.ntmps9
      go_upto_region 1 with (fail)
      refine wp_world (fun W => W.heap[w.heap.size]? = some (.cells (kvB n s md) 25 (0, 0)) ∧ Below w.heap.size w W) ⟨ha_new rfl, (Below.refl _ _).alloc (Nat.le_refl _) _⟩ ?_
      rintro W ⟨h0, hb⟩
      apply wp_region_lit
      refine wl_k rfl (fun K hK => ?_); go_simp; refine hK _ ?_; clear hK K
      refine wl_ck rfl (fun K hK => ?_); go_simp; refine ⟨_, _, ⟨rfl, rfl⟩, hK _ _ ⟨_, longs a _ _ LA, ?_⟩⟩; clear hK K; rintro e w1 ⟨rfl, hb1⟩; refine ⟨_, rfl, ?_⟩; simp only [put_lit, List.set_cons_zero, List.set_cons_succ]
      replace h0 := below_look hb1 h0; replace hb := hb.trans (hb1.mono hb.size); clear hb1
      refine wl_k rfl (fun K hK => ?_); go_simp; refine hK _ ?_; clear hK K
      refine wl_k rfl (fun K hK => ?_); go_simp; refine hK _ ?_; clear hK K
      refine wl_ck rfl (fun K hK => ?_); go_simp; refine ⟨_, _, ⟨rfl, rfl⟩, hK _ _ ⟨_, longs b _ _ LB, ?_⟩⟩; clear hK K; rintro e w2 ⟨rfl, hb1⟩; refine ⟨_, rfl, ?_⟩; simp only [put_lit, List.set_cons_zero, List.set_cons_succ]
      replace h0 := below_look hb1 h0; replace hb := hb.trans (hb1.mono hb.size); clear hb1
      refine wl_k rfl (fun K hK => ?_); go_simp; refine hK _ ?_; clear hK K
      go_upto_region 3 with (fail)
      apply wp_region_lit
      refine wl_k rfl (fun K hK => ?_); go_simp; refine hK _ ?_; clear hK K
      refine wl_k rfl (fun K hK => ?_); go_simp; refine hK _ ?_; clear hK K
      refine wl_k rfl (fun K hK => ?_); go_simp; refine hK _ ?_; clear hK K
      ((with_reducible apply wl_oneG); exact rfl; exact rfl; exact one_of u3 rfl (kv0 h0))
      refine wl_k rfl (fun K hK => ?_); go_simp; refine hK _ ?_; clear hK K
      ((with_reducible apply wl_oneG); exact rfl; exact rfl; exact one_of u4 rfl (kv1 h0))
      refine wl_ck rfl (fun K hK => ?_); go_simp; refine ⟨_, _, ⟨rfl, rfl⟩, hK _ _ ⟨_, Do_any _ _ _ _ _ _ _ _ HQ _, ?_⟩⟩; clear hK K; rintro e w3 ⟨rfl, hb1⟩; refine ⟨_, rfl, ?_⟩; simp only [put_lit, List.set_cons_zero, List.set_cons_succ]
      replace h0 := below_look hb1 h0; replace hb := hb.trans (hb1.mono hb.size); clear hb1
      go_upto_region 4 with (fail)
      apply wp_region_lit
      refine wl_k rfl (fun K hK => ?_); go_simp; refine hK _ ?_; clear hK K
      refine wl_k rfl (fun K hK => ?_); go_simp; refine hK _ ?_; clear hK K
      refine wl_k rfl (fun K hK => ?_); go_simp; refine hK _ ?_; clear hK K
      ((with_reducible apply wl_oneG); exact rfl; exact rfl; exact one_of u3 rfl (kv0 h0))
      refine wl_k rfl (fun K hK => ?_); go_simp; refine hK _ ?_; clear hK K
      ((with_reducible apply wl_oneG); exact rfl; exact rfl; exact one_of u4 rfl (kv1 h0))
      refine wl_ck rfl (fun K hK => ?_); go_simp; refine ⟨_, _, ⟨rfl, rfl⟩, hK _ _ ⟨_, Do_any _ _ _ _ _ _ _ _ HR _, ?_⟩⟩; clear hK K; rintro e w3 ⟨rfl, hb1⟩; refine ⟨_, rfl, ?_⟩; simp only [put_lit, List.set_cons_zero, List.set_cons_succ]
      replace h0 := below_look hb1 h0; replace hb := hb.trans (hb1.mono hb.size); clear hb1
      go_upto_region 7 with (fail)
      replace hb := hb.drew
      refine wp_region_held_drew (S := Kept [] w3) mixed (Kept.drew [] w3) (fun hS => ?_)
      refine ha_k (i := 0) rfl (by kernel_rfl) (by kernel_rfl) (by kernel_rfl) (fun _ _ _ _ h => h) hS rfl (fun K hK => ?_); go_simp; refine hK _ ?_; clear hK K; try simp only [put_lit, List.set_cons_zero, List.set_cons_succ]
      refine ha_k (i := 1) rfl (by kernel_rfl) (by kernel_rfl) (by kernel_rfl) (fun _ _ _ _ h => h) hS rfl (fun K hK => ?_); go_simp; refine hK _ ?_; clear hK K; try simp only [put_lit, List.set_cons_zero, List.set_cons_succ]
      refine ha_k (i := 2) rfl (by kernel_rfl) (by kernel_rfl) (by kernel_rfl) (fun _ _ _ _ h => h) hS rfl (fun K hK => ?_); go_simp; refine hK _ ?_; clear hK K; try simp only [put_lit, List.set_cons_zero, List.set_cons_succ]
      refine ha_k (i := 3) rfl (by kernel_rfl) (by kernel_rfl) (by kernel_rfl) (fun _ _ _ _ h => h) hS rfl (fun K hK => ?_); go_simp; refine hK _ ?_; clear hK K; try simp only [put_lit, List.set_cons_zero, List.set_cons_succ]
      refine ha_k (i := 4) rfl (by kernel_rfl) (by kernel_rfl) (by kernel_rfl) (fun _ _ _ _ h => h) hS rfl (fun K hK => ?_); go_simp; refine hK _ ?_; clear hK K; try simp only [put_lit, List.set_cons_zero, List.set_cons_succ]
      refine ha_k (i := 5) rfl (by kernel_rfl) (by kernel_rfl) (by kernel_rfl) (fun _ _ _ _ h => h) hS rfl (fun K hK => ?_); go_simp; refine hK _ ?_; clear hK K; try simp only [put_lit, List.set_cons_zero, List.set_cons_succ]
      refine ha_k (i := 6) rfl (by kernel_rfl) (by kernel_rfl) (by kernel_rfl) (fun _ _ _ _ h => h) hS rfl (fun K hK => ?_); go_simp; refine hK _ ?_; clear hK K; try simp only [put_lit, List.set_cons_zero, List.set_cons_succ]
      refine ha_k (i := 7) rfl (by kernel_rfl) (by kernel_rfl) (by kernel_rfl) (fun _ _ _ _ h => h) hS rfl (fun K hK => ?_); go_simp; refine hK _ ?_; clear hK K; try simp only [put_lit, List.set_cons_zero, List.set_cons_succ]
      refine ha_k (i := 8) rfl (by kernel_rfl) (by kernel_rfl) (by kernel_rfl) (fun _ _ _ _ h => h) hS rfl (fun K hK => ?_); go_simp; refine hK _ ?_; clear hK K; try simp only [put_lit, List.set_cons_zero, List.set_cons_succ]
      refine ha_k (i := 9) rfl (by kernel_rfl) (by kernel_rfl) (by kernel_rfl) (fun _ _ _ _ h => h) hS rfl (fun K hK => ?_); go_simp; refine hK _ ?_; clear hK K; try simp only [put_lit, List.set_cons_zero, List.set_cons_succ]
      refine ha_k (i := 10) rfl (by kernel_rfl) (by kernel_rfl) (by kernel_rfl) (fun _ _ _ _ h => h) hS rfl (fun K hK => ?_); go_simp; refine hK _ ?_; clear hK K; try simp only [put_lit, List.set_cons_zero, List.set_cons_succ]
      refine ha_k (i := 11) rfl (by kernel_rfl) (by kernel_rfl) (by kernel_rfl) (fun _ _ _ _ h => h) hS rfl (fun K hK => ?_); go_simp; refine hK _ ?_; clear hK K; try simp only [put_lit, List.set_cons_zero, List.set_cons_succ]
      refine ha_k (i := 12) rfl (by kernel_rfl) (by kernel_rfl) (by kernel_rfl) (fun _ _ _ _ h => h) hS rfl (fun K hK => ?_); go_simp; refine hK _ ?_; clear hK K; try simp only [put_lit, List.set_cons_zero, List.set_cons_succ]
      refine ha_k (i := 13) rfl (by kernel_rfl) (by kernel_rfl) (by kernel_rfl) (fun _ _ _ _ h => h) hS rfl (fun K hK => ?_); go_simp; refine hK _ ?_; clear hK K; try simp only [put_lit, List.set_cons_zero, List.set_cons_succ]
      refine ha_k (i := 14) rfl (by kernel_rfl) (by kernel_rfl) (by kernel_rfl) (fun _ _ _ _ h => h) hS rfl (fun K hK => ?_); go_simp; refine hK _ ?_; clear hK K; try simp only [put_lit, List.set_cons_zero, List.set_cons_succ]
      refine ha_val (i := 15) rfl (by kernel_rfl) (by kernel_rfl) (by kernel_rfl) (fun _ _ _ h => h) hS rfl (fun w' hw' => ex_row rfl (rowKvB (hw'.look h0 (by simp <;> omega)))) ?_; try simp only [put_lit, List.set_cons_zero, List.set_cons_succ]
      refine ha_k (i := 17) rfl (by kernel_rfl) (by kernel_rfl) (by kernel_rfl) (fun _ _ _ _ h => h) hS rfl (fun K hK => ?_); go_simp; refine hK _ ?_; clear hK K; try simp only [put_lit, List.set_cons_zero, List.set_cons_succ]
      refine ha_val (i := 18) rfl (by kernel_rfl) (by kernel_rfl) (by kernel_rfl) (fun _ _ _ h => h) hS rfl (fun w' hw' => ex_row rfl (rowKvB (hw'.look h0 (by simp <;> omega)))) ?_; try simp only [put_lit, List.set_cons_zero, List.set_cons_succ]
      refine ha_k (i := 20) rfl (by kernel_rfl) (by kernel_rfl) (by kernel_rfl) (fun _ _ _ _ h => h) hS rfl (fun K hK => ?_); go_simp; refine hK _ ?_; clear hK K; try simp only [put_lit, List.set_cons_zero, List.set_cons_succ]
      refine ha_call (i := 16) (by kernel_rfl) rfl rfl (fun K hK => ?_); go_simp; refine ⟨_, _, ⟨rfl, rfl⟩, hK _ _ ⟨_, K1.out _, ?_⟩⟩; clear hK K; rintro e w4 ⟨rfl, hb1⟩; refine ⟨_, rfl, hS.below hb1, ?_⟩; replace hS := hS.below hb1; replace h0 := below_look hb1 h0; replace hb := hb.trans (hb1.mono hb.size); clear hb1; try simp only [put_lit, List.set_cons_zero, List.set_cons_succ]
      refine ha_call (i := 19) (by kernel_rfl) rfl rfl (fun K hK => ?_); go_simp; refine ⟨_, _, ⟨rfl, rfl⟩, hK _ _ ⟨_, K2.out _, ?_⟩⟩; clear hK K; rintro e w5 ⟨rfl, hb1⟩; refine ⟨_, rfl, hS.below hb1, ?_⟩; replace hS := hS.below hb1; replace h0 := below_look hb1 h0; replace hb := hb.trans (hb1.mono hb.size); clear hb1; try simp only [put_lit, List.set_cons_zero, List.set_cons_succ]
      refine ha_k (i := 21) rfl (by kernel_rfl) (by kernel_rfl) (by kernel_rfl) (fun _ _ _ _ h => h) hS rfl (fun K hK => ?_); go_simp; refine hK _ ?_; clear hK K; try simp only [put_lit, List.set_cons_zero, List.set_cons_succ]
      refine ha_k (i := 22) rfl (by kernel_rfl) (by kernel_rfl) (by kernel_rfl) (fun _ _ _ _ h => h) hS rfl (fun K hK => ?_); go_simp; refine hK _ ?_; clear hK K; try simp only [put_lit, List.set_cons_zero, List.set_cons_succ]
      refine wpAnyH_done (by kernel_rfl) ?_ _
      clear hS
      go_upto_region 9 with (fail)
      clear h0
      replace hb := hb.drew
      refine wp_region_held_drew (S := Kept [] w5) mixed (Kept.drew [] w5) (fun hS => ?_)
      refine ha_k (i := 0) rfl (by kernel_rfl) (by kernel_rfl) (by kernel_rfl) (fun _ _ _ _ h => h) hS rfl (fun K hK => ?_); go_simp; refine hK _ ?_; clear hK K; try simp only [put_lit, List.set_cons_zero, List.set_cons_succ]
      refine ha_k (i := 1) rfl (by kernel_rfl) (by kernel_rfl) (by kernel_rfl) (fun _ _ _ _ h => h) hS rfl (fun K hK => ?_); go_simp; refine hK _ ?_; clear hK K; try simp only [put_lit, List.set_cons_zero, List.set_cons_succ]
      refine ha_k (i := 2) rfl (by kernel_rfl) (by kernel_rfl) (by kernel_rfl) (fun _ _ _ _ h => h) hS rfl (fun K hK => ?_); go_simp; refine hK _ ?_; clear hK K; try simp only [put_lit, List.set_cons_zero, List.set_cons_succ]
      refine ha_k (i := 3) rfl (by kernel_rfl) (by kernel_rfl) (by kernel_rfl) (fun _ _ _ _ h => h) hS rfl (fun K hK => ?_); go_simp; refine hK _ ?_; clear hK K; try simp only [put_lit, List.set_cons_zero, List.set_cons_succ]
      refine ha_k (i := 4) rfl (by kernel_rfl) (by kernel_rfl) (by kernel_rfl) (fun _ _ _ _ h => h) hS rfl (fun K hK => ?_); go_simp; refine hK _ ?_; clear hK K; try simp only [put_lit, List.set_cons_zero, List.set_cons_succ]
      refine ha_k (i := 5) rfl (by kernel_rfl) (by kernel_rfl) (by kernel_rfl) (fun _ _ _ _ h => h) hS rfl (fun K hK => ?_); go_simp; refine hK _ ?_; clear hK K; try simp only [put_lit, List.set_cons_zero, List.set_cons_succ]
      refine ha_k (i := 6) rfl (by kernel_rfl) (by kernel_rfl) (by kernel_rfl) (fun _ _ _ _ h => h) hS rfl (fun K hK => ?_); go_simp; refine hK _ ?_; clear hK K; try simp only [put_lit, List.set_cons_zero, List.set_cons_succ]
      refine ha_k (i := 7) rfl (by kernel_rfl) (by kernel_rfl) (by kernel_rfl) (fun _ _ _ _ h => h) hS rfl (fun K hK => ?_); go_simp; refine hK _ ?_; clear hK K; try simp only [put_lit, List.set_cons_zero, List.set_cons_succ]
      refine ha_k (i := 8) rfl (by kernel_rfl) (by kernel_rfl) (by kernel_rfl) (fun _ _ _ _ h => h) hS rfl (fun K hK => ?_); go_simp; refine hK _ ?_; clear hK K; try simp only [put_lit, List.set_cons_zero, List.set_cons_succ]
      refine ha_k (i := 9) rfl (by kernel_rfl) (by kernel_rfl) (by kernel_rfl) (fun _ _ _ _ h => h) hS rfl (fun K hK => ?_); go_simp; refine hK _ ?_; clear hK K; try simp only [put_lit, List.set_cons_zero, List.set_cons_succ]
      refine ha_k (i := 10) rfl (by kernel_rfl) (by kernel_rfl) (by kernel_rfl) (fun _ _ _ _ h => h) hS rfl (fun K hK => ?_); go_simp; refine hK _ ?_; clear hK K; try simp only [put_lit, List.set_cons_zero, List.set_cons_succ]
      refine ha_k (i := 11) rfl (by kernel_rfl) (by kernel_rfl) (by kernel_rfl) (fun _ _ _ _ h => h) hS rfl (fun K hK => ?_); go_simp; refine hK _ ?_; clear hK K; try simp only [put_lit, List.set_cons_zero, List.set_cons_succ]
      refine ha_k (i := 12) rfl (by kernel_rfl) (by kernel_rfl) (by kernel_rfl) (fun _ _ _ _ h => h) hS rfl (fun K hK => ?_); go_simp; refine hK _ ?_; clear hK K; try simp only [put_lit, List.set_cons_zero, List.set_cons_succ]
      refine ha_call (i := 13) (by kernel_rfl) rfl rfl (fun K hK => ?_); go_simp; refine ⟨_, _, ⟨rfl, rfl⟩, hK _ _ ⟨_, hsm.out _, ?_⟩⟩; clear hK K; rintro e w8 ⟨rfl, hb1⟩; refine ⟨_, rfl, hS.below hb1, ?_⟩; replace hS := hS.below hb1; replace hb := hb.trans (hb1.mono hb.size); clear hb1; try simp only [put_lit, List.set_cons_zero, List.set_cons_succ]
      refine ha_k (i := 14) rfl (by kernel_rfl) (by kernel_rfl) (by kernel_rfl) (fun _ _ _ _ h => h) hS rfl (fun K hK => ?_); go_simp; refine hK _ ?_; clear hK K; try simp only [put_lit, List.set_cons_zero, List.set_cons_succ]
      refine ha_k (i := 15) rfl (by kernel_rfl) (by kernel_rfl) (by kernel_rfl) (fun _ _ _ _ h => h) hS rfl (fun K hK => ?_); go_simp; refine hK _ ?_; clear hK K; try simp only [put_lit, List.set_cons_zero, List.set_cons_succ]
      refine ha_k (i := 16) rfl (by kernel_rfl) (by kernel_rfl) (by kernel_rfl) (fun _ _ _ _ h => h) hS rfl (fun K hK => ?_); go_simp; refine hK _ ?_; clear hK K; try simp only [put_lit, List.set_cons_zero, List.set_cons_succ]
      refine ha_call (i := 17) (by kernel_rfl) rfl rfl (fun K hK => ?_); go_simp; refine ⟨_, _, ⟨rfl, rfl⟩, hK _ _ ⟨_, awake_any _, ?_⟩⟩; clear hK K; rintro e w9 ⟨rfl, hb1⟩; refine ⟨_, rfl, hS.below hb1, ?_⟩; replace hS := hS.below hb1; replace hb := hb.trans (hb1.mono hb.size); clear hb1; try simp only [put_lit, List.set_cons_zero, List.set_cons_succ]
      refine ha_k (i := 18) rfl (by kernel_rfl) (by kernel_rfl) (by kernel_rfl) (fun _ _ _ _ h => h) hS rfl (fun K hK => ?_); go_simp; refine hK _ ?_; clear hK K; try simp only [put_lit, List.set_cons_zero, List.set_cons_succ]
      refine ha_k (i := 19) rfl (by kernel_rfl) (by kernel_rfl) (by kernel_rfl) (fun _ _ _ _ h => h) hS rfl (fun K hK => ?_); go_simp; refine hK _ ?_; clear hK K; try simp only [put_lit, List.set_cons_zero, List.set_cons_succ]
      refine wpAnyH_done (by kernel_rfl) ?_ _
      go_wp2_with fail
      go_ret
      exact ⟨rfl, hb⟩
set_option maxHeartbeats 2000000 in
set_option maxRecDepth 100000 in
theorem NumberGivesBack_any (a b : ByteArray) (n : Int) (s : Bool) (md : ByteArray) (w : World) :
    Calls Try.prog 9 #[.string a, .string b, .agg (kvB n s md)] w fun e w' => e = .returned (.bool true) ∧ Below w.heap.size w w' := by
  cases la : decide (200 < a.size)
  · have LA := Lib.hid la
    clear la
    cases lb : decide (200 < b.size)
    · have LB := Lib.hid lb
      clear lb
      rcases hq : doS ⟨#[47]⟩ a b n s ⟨#[119, 114, 97, 112]⟩ with ⟨q, e1⟩
      rcases hr : doS ⟨#[37]⟩ a b n s ⟨#[116, 114, 97, 112]⟩ with ⟨r, e2⟩
      by_cases he : e1 = 0
      · subst he
        obtain ⟨rfl, x, y, ρ, G⟩ := gives_of rfl rfl hq hr
        exact GB_ok a b n s md LA LB q r (Lib.hid hq) (Lib.hid hr) x y ρ G w
      · have h2 := gives_err rfl hq hr he
        exact GB_err a b n s md LA LB q r e1 e2 (Lib.hid hq) (Lib.hid hr) (by simpa using he) (by simpa using h2) w
    · have LB := Lib.hid lb
      clear lb
      go_enter Try.func9, Try.ntmps9
      go_upto_region 1 with (fail)
      refine wp_world (fun W => W.heap[w.heap.size]? = some (.cells (kvB n s md) 25 (0, 0)) ∧ Below w.heap.size w W) ⟨ha_new rfl, (Below.refl _ _).alloc (Nat.le_refl _) _⟩ ?_
      rintro W ⟨h0, hb⟩
      apply wp_region_lit
      refine wl_k rfl (fun K hK => ?_); go_simp; refine hK _ ?_; clear hK K
      refine wl_ck rfl (fun K hK => ?_); go_simp; refine ⟨_, _, ⟨rfl, rfl⟩, hK _ _ ⟨_, longs a _ _ LA, ?_⟩⟩; clear hK K; rintro e w1 ⟨rfl, hb1⟩; refine ⟨_, rfl, ?_⟩; simp only [put_lit, List.set_cons_zero, List.set_cons_succ]
      replace h0 := below_look hb1 h0; replace hb := hb.trans (hb1.mono hb.size); clear hb1
      refine wl_k rfl (fun K hK => ?_); go_simp; refine hK _ ?_; clear hK K
      refine wl_k rfl (fun K hK => ?_); go_simp; refine hK _ ?_; clear hK K
      refine wl_ck rfl (fun K hK => ?_); go_simp; refine ⟨_, _, ⟨rfl, rfl⟩, hK _ _ ⟨_, longs b _ _ LB, ?_⟩⟩; clear hK K; rintro e w2 ⟨rfl, hb1⟩; refine ⟨_, rfl, ?_⟩; simp only [put_lit, List.set_cons_zero, List.set_cons_succ]
      replace h0 := below_look hb1 h0; replace hb := hb.trans (hb1.mono hb.size); clear hb1
      refine wl_k rfl (fun K hK => ?_); go_simp; refine hK _ ?_; clear hK K
      go_wp2_with (go_at_call 21; refine (awake_any _).mono ?_; rintro e w9 ⟨rfl, hb1⟩; replace hb := hb.trans (hb1.mono hb.size); clear hb1)
      go_ret
      exact ⟨rfl, hb⟩
  · have LA := Lib.hid la
    clear la
    go_enter Try.func9, Try.ntmps9
    go_upto_region 1 with (fail)
    refine wp_world (fun W => W.heap[w.heap.size]? = some (.cells (kvB n s md) 25 (0, 0)) ∧ Below w.heap.size w W) ⟨ha_new rfl, (Below.refl _ _).alloc (Nat.le_refl _) _⟩ ?_
    rintro W ⟨h0, hb⟩
    apply wp_region_lit
    refine wl_k rfl (fun K hK => ?_); go_simp; refine hK _ ?_; clear hK K
    refine wl_ck rfl (fun K hK => ?_); go_simp; refine ⟨_, _, ⟨rfl, rfl⟩, hK _ _ ⟨_, longs a _ _ LA, ?_⟩⟩; clear hK K; rintro e w1 ⟨rfl, hb1⟩; refine ⟨_, rfl, ?_⟩; simp only [put_lit, List.set_cons_zero, List.set_cons_succ]
    replace h0 := below_look hb1 h0; replace hb := hb.trans (hb1.mono hb.size); clear hb1
    refine wl_k rfl (fun K hK => ?_); go_simp; refine hK _ ?_; clear hK K
    go_wp2_with (go_at_call 21; refine (awake_any _).mono ?_; rintro e w9 ⟨rfl, hb1⟩; replace hb := hb.trans (hb1.mono hb.size); clear hb1)
    go_ret
    exact ⟨rfl, hb⟩
end Go.Proofs.Ytclainfdeghgnaa
