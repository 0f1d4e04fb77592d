/- A quotient of decimals. The examples of the chapter hold. Plain facts about limbs of 32 bits: carries, borrows, products, quotients bit by bit. No program in sight. The document's magnitudes: a slice of limbs, trimmed. The document's sums of magnitudes. The document's differences of magnitudes, and which of two is the greater one. The document's products of magnitudes. The document's bits of a magnitude, and its quotients bit by bit. The document's whole numbers: signs, sums, products. The document's whole numbers: of an int; differences, products, quotients, powers. The document's powers of 2 and of 10, floors, comparisons. The document's floors and comparisons. A number's text is read as the number; numbers wrapped into a width. The document's decimal text of a whole number. The document's numbers as ints; decimals of exact units. Texts of decimals, plainly: a decimal's text is read as it, and only its text. What the document's Parse gives, plainly; both readers read the same. Contracts of the shelf at this dump, in plain words (written by the kit's own tools; those that are wanted). Steps for decimals in variables. Normal of both sides. -/
import Derived.Outline
import Init
import Derived.Test.YtclainfdeghgnaaDoorPN5
import Derived.Test.YtclainfdeghgnaaDoorPN4
import Derived.Deep.RegionHeld
import Derived.Laws.BytesString
import Derived.Test.YtclainfdeghgnaaDoorPN2
import Derived.Test.YtclainfdeghgnaaDoorPN3
import Derived.Lib.ItoaMem
import Derived.Lib.AtoiAll
import Derived.Lib.IndexMore
import Derived.Lib.IndexBytes
import Derived.Shelf.LaysM
import Derived.Shelf.Strconv.Itoa3
import Derived.Test.YtclainfdeghgnaaDoorProg
namespace Go.Proofs.YtclainfdeghgnaaDoor
open Go.RowKit Go.Proofs.YtclainfdeghgnaaDoor.Nm

/-- What a made decimal is: its units, its scale, its error. -/
def madeU (z : Int) : Int := if 100000000000000000 < z.natAbs then 0 else z
def madeK (z scale : Int) : Int := if 100000000000000000 < z.natAbs then 0 else scale
def madeE (z : Int) : Int := if 100000000000000000 < z.natAbs then 2 else 0
theorem made_any (z : Int) (scale : Int) (hz : z.natAbs < 10 ^ 64) (u k e : Int) (hu : Hid (u = madeU z)) (hk : Hid (k = madeK z scale)) (he : Hid (e = madeE z)) (w : World) :
    Calls Tryd.prog 40 #[.agg (lv z), .int .i64 scale] w fun e' w' => e' = .returned (.tuple #[.agg (dc u k), .int .i64 e]) ∧ Below w.heap.size w w' := by
  rw [hu.out, hk.out, he.out]
  unfold madeU madeK madeE
  by_cases h : 100000000000000000 < z.natAbs
  · simp only [if_pos h]; exact made_over z scale (Lib.hid hz) (Lib.hid h) w
  · simp only [if_neg h]; exact made_ok z scale (Lib.hid hz) (Lib.hid (by omega)) w

structure DivBd (u1 k1 u2 k2 scale : Int) : Prop where
  a1 : -9223372036854775808 ≤ u1
  a2 : u1 ≤ 9223372036854775807
  b1 : -9223372036854775808 ≤ u2
  b2 : u2 ≤ 9223372036854775807
  s0 : 0 ≤ k2 + scale
  s1 : k2 + scale ≤ 9223372036854775806
  t0 : 0 ≤ k1
  t1 : k1 ≤ 9223372036854775806
  p1 : 10 ^ (k2 + scale).toNat < 10 ^ 64
  p2 : 10 ^ k1.toNat < 10 ^ 64
  m1 : u1.natAbs * ((10 ^ (k2 + scale).toNat : Nat) : Int).natAbs < 10 ^ 64
  m2 : u2.natAbs * ((10 ^ k1.toNat : Nat) : Int).natAbs < 10 ^ 64
  ra : (u1 * ((10 ^ (k2 + scale).toNat : Nat) : Int)).natAbs < 10 ^ 63
  rb0 : 0 < (u2 * ((10 ^ k1.toNat : Nat) : Int)).natAbs
  rb1 : (u2 * ((10 ^ k1.toNat : Nat) : Int)).natAbs < 10 ^ 63
/-- A decimal stored: behind it the world under a name. -/
theorem wl_put33 {ops : Array Oper} {rest : List Oper} {ty' : TypeId} {x y : Operand} {pos : String} {after : Array Edge} {a : Act} {w : World} {Q : Exit → Act → World → Prop} {b : Nat} {u k u0 k0 : Int} (hx : a.eval x = .pointer (some ⟨b, 0, none⟩)) (hy : a.eval y = .agg (dc u k)) (hb : w.heap[b]? = some (.cells (dc u0 k0) 23 (0, 0)))
    (h : ∀ W, (∀ B w0, B ≤ b → Below B w0 w → Below B w0 W) → (∀ k o, k ≠ b → w.heap[k]? = some o → W.heap[k]? = some o) → W.heap[b]? = some (.cells (dc u k) 23 (0, 0)) → wpList Tryd.prog ops Q rest a W) : wpList Tryd.prog ops Q (⟨none, .store 23 x y, ty', pos, after, none⟩ :: rest) a w :=
  wpList_store_row rfl 23 x y rfl b (dc u k) hx hy 23 (dc u0 k0) hb (by rw [info33]; rfl) rfl (by simp [dc, Value.oneCell']) (h _ (fun _ _ hB h0 => below_setRow h0 hB _) (fun _ _ hne h0 => hr_old h0 hne) (hr_new hb))
set_option maxHeartbeats 1000000 in
theorem Div_ok (u1 k1 u2 k2 scale : Int) (m : ByteArray) (E : Int) (HE : Hid (E = refusedS [(u1, k1), (u2, k2)] scale m.data.toList)) (hE : E = 0) (h20 : ¬ u2 = 0) (DB : Hid (DivBd u1 k1 u2 k2 scale)) (hsc : 0 ≤ scale) (hsc2 : scale ≤ 9) (hk2 : 0 ≤ k2) (hk22 : k2 ≤ 9)
    (HRM : Hid (isRoundL m.data.toList = true)) (u k e : Int) (z : Int) (Hz : Hid (z = roundS m.data.toList (u1 * ((10 ^ (k2 + scale).toNat : Nat) : Int)) (u2 * ((10 ^ k1.toNat : Nat) : Int)))) (hzb : Hid (z.natAbs < 10 ^ 64)) (hu : Hid (u = madeU z)) (hk : Hid (k = madeK z scale)) (he : Hid (e = madeE z)) (w : World) :
    Calls Tryd.prog 19 #[.agg (dc u1 k1), .agg (dc u2 k2), .int .i64 scale, .string m] w fun e' w' => e' = .returned (.tuple #[.agg (dc u k), .int .i64 e]) ∧ Below w.heap.size w w' := by
  have i1 : IntKind.i64.wrap (k2 + scale) = k2 + scale := IntWalk.i64_in _ (by omega)
  go_enter Tryd.func19, Tryd.ntmps19
  go_upto_region 1 with (fail)
  refine wp_world (fun W => W.heap[w.heap.size]? = some (.cells (dc u1 k1) 23 (0, 0)) ∧ W.heap[w.heap.size + 1]? = some (.cells (dc u2 k2) 23 (0, 0)) ∧ W.heap[w.heap.size + 1 + 1]? = some (.cells (dc 0 0) 23 (0, 0)) ∧ Below w.heap.size w W) ⟨ha_old (ha_old (ha_new rfl)), ha_old (ha_new (by simp)), ha_new (by simp), (((Below.refl _ _).alloc (Nat.le_refl _) _).alloc (by simp) _).alloc (by simp; omega) _⟩ ?_
  rintro W ⟨h0, h1, h2, hb⟩
  have a0 := dc0 h0
  have a1 := dc1 h0
  have b0 := dc0 h1
  have b1 := dc1 h1
  go_wp2_with (go_at_call 37; refine (refused_any W.heap.size 2 [(u1, k1), (u2, k2)] (by simp) scale m E HE _ (ha_new rfl)).mono ?_)
  rintro e w1 ⟨rfl, hb1⟩
  replace hb1 := ((Below.refl W.heap.size W).alloc (Nat.le_refl _) _).trans (hb1.mono (by simp))
  clear a0 a1 b0 b1
  replace h0 := below_look hb1 h0; replace h1 := below_look hb1 h1; replace h2 := below_look hb1 h2; replace hb := hb.trans (hb1.mono hb.size); clear hb1
  have a0 := dc0 h0
  have a1 := dc1 h0
  have b0 := dc0 h1
  have b1 := dc1 h1
  go_upto_region 6 with (fail)
  clear h20 hE
  refine wp_region_float 9 11 (lv 0) 69 mixed (by kernel_rfl) ⟨_, rfl, rfl, rfl, ex_alloc75 rfl⟩ ?_; simp only [List.take_succ_cons, List.take_zero, List.drop_succ_cons, List.drop_zero]
  refine ws_k rfl (fun K hK => ?_); go_simp; refine hK _ ?_; clear hK K
  ((with_reducible apply ws_one); exact rfl; exact rfl; (intro w' hw'; exact one_of u3 rfl (below_cell hw' (by with_reducible assumption))))
  simp only [put_lit, List.set_cons_zero, List.set_cons_succ]
  refine ws_ck rfl (fun K hK => ?_); go_simp; refine ⟨_, _, ⟨rfl, rfl⟩, hK _ _ ⟨_, fun w' hw' => (small_any _ DB.out.a1 DB.out.a2 w'), ?_⟩⟩; clear hK K; simp only [put_lit, List.set_cons_zero, List.set_cons_succ]
  refine ws_k rfl (fun K hK => ?_); go_simp; refine hK _ ?_; clear hK K
  ((with_reducible apply ws_one); exact rfl; exact rfl; (intro w' hw'; exact one_of u3 rfl (below_cell hw' (by with_reducible assumption))))
  simp only [put_lit, List.set_cons_zero, List.set_cons_succ]
  refine ws_k rfl (fun K hK => ?_); go_simp; refine hK _ ?_; clear hK K
  refine ws_k rfl (fun K hK => ?_); go_simp; refine hK _ ?_; clear hK K
  refine ws_ck rfl (fun K hK => ?_); go_simp; refine ⟨_, _, ⟨rfl, rfl⟩, hK _ _ ⟨_, fun w' hw' => (pow10_any _ DB.out.p1 DB.out.s0 DB.out.s1 w'), ?_⟩⟩; clear hK K; simp only [put_lit, List.set_cons_zero, List.set_cons_succ]
  refine ws_ck rfl (fun K hK => ?_); go_simp; refine ⟨_, _, ⟨rfl, rfl⟩, hK _ _ ⟨_, fun w' hw' => (mul_any _ _ DB.out.m1 w'), ?_⟩⟩; clear hK K; simp only [put_lit, List.set_cons_zero, List.set_cons_succ]
  rintro p5 w9 ⟨hb1, hl5, hp5⟩
  have lt2 := heap_lt h2
  clear a0 a1 b0 b1
  replace h0 := below_look hb1 h0; replace h1 := below_look hb1 h1; replace h2 := below_look hb1 h2; replace hb := hb.trans (hb1.mono hb.size); clear hb1
  simp only [put_lit, List.set_cons_zero, List.set_cons_succ]
  ((with_reducible apply wl_put75); exact rfl; exact rfl; exact hp5; intro w10 hbx hk hq; replace h0 := hk _ _ (by omega) h0; replace h1 := hk _ _ (by omega) h1; replace h2 := hk _ _ (by omega) h2; replace hb := hbx _ _ (by omega) hb; clear hp5; have hp5 := hq; clear hbx hk hq)
  have a0 := dc0 h0
  have a1 := dc1 h0
  have b0 := dc0 h1
  have b1 := dc1 h1
  go_upto_region 7 with (fail)
  refine wp_region_tail_late 14 13 mixed (by kernel_rfl) (by kernel_rfl) ?_
  simp only [List.take_succ_cons, List.take_zero, List.drop_succ_cons, List.drop_zero]
  ((with_reducible apply wq_row); exact rfl; exact rfl; (intro w' hw'; first | exact rowL (below_look hw' (by with_reducible assumption)) | exact rowD (below_look hw' (by with_reducible assumption)) | exact rowR (below_look hw' (by with_reducible assumption))))
  refine wq_k rfl (fun K hK => ?_); go_simp; refine hK _ ?_; clear hK K
  ((with_reducible apply wq_one); exact rfl; exact rfl; (intro w' hw'; exact one_of u3 rfl (below_cell hw' (by with_reducible assumption))))
  refine wq_ck rfl (fun K hK => ?_); go_simp; refine ⟨_, _, ⟨rfl, rfl⟩, hK _ _ ⟨_, fun w' hw' => calls_class hw' (small_any _ DB.out.b1 DB.out.b2 w'), ?_⟩⟩; clear hK K; simp only [put_lit, List.set_cons_zero, List.set_cons_succ]
  refine wq_k rfl (fun K hK => ?_); go_simp; refine hK _ ?_; clear hK K
  ((with_reducible apply wq_one); exact rfl; exact rfl; (intro w' hw'; exact one_of u3 rfl (below_cell hw' (by with_reducible assumption))))
  refine wq_ck rfl (fun K hK => ?_); go_simp; refine ⟨_, _, ⟨rfl, rfl⟩, hK _ _ ⟨_, fun w' hw' => calls_class hw' (pow10_any _ DB.out.p2 DB.out.t0 DB.out.t1 w'), ?_⟩⟩; clear hK K; simp only [put_lit, List.set_cons_zero, List.set_cons_succ]
  refine wq_ck rfl (fun K hK => ?_); go_simp; refine ⟨_, _, ⟨rfl, rfl⟩, hK _ _ ⟨_, fun w' hw' => calls_class hw' (mul_any _ _ DB.out.m2 w'), ?_⟩⟩; clear hK K; simp only [put_lit, List.set_cons_zero, List.set_cons_succ]
  refine wq_k rfl (fun K hK => ?_); go_simp; refine hK _ ?_; clear hK K
  refine wq_ck rfl (fun K hK => ?_); go_simp; refine ⟨_, _, ⟨rfl, rfl⟩, hK _ _ ⟨_, fun w' hw' => calls_class hw' (rounded_any _ _ _ HRM.out DB.out.rb0 DB.out.rb1 DB.out.ra w'), ?_⟩⟩; clear hK K; simp only [put_lit, List.set_cons_zero, List.set_cons_succ]
  rw [← Hz.out]
  refine wq_k rfl (fun K hK => ?_); go_simp; refine hK _ ?_; clear hK K
  refine wq_ck rfl (fun K hK => ?_); go_simp; refine ⟨_, _, ⟨rfl, rfl⟩, hK _ _ ⟨_, fun w' hw' => calls_class hw' (made_any _ _ hzb.out _ _ _ hu hk he w'), ?_⟩⟩; clear hK K; simp only [put_lit, List.set_cons_zero, List.set_cons_succ]
  refine wq_k rfl (fun K hK => ?_); go_simp; refine hK _ ?_; clear hK K
  refine wq_k rfl (fun K hK => ?_); go_simp; refine hK _ ?_; clear hK K
  intro w11 hb1
  clear a0 a1 b0 b1
  replace h2 := below_look hb1 h2; replace hb := hb.trans (hb1.mono hb.size); clear hb1
  ((with_reducible apply wl_put33); exact rfl; exact rfl; exact h2; intro w12 hbx hk hq; replace hb := hbx _ _ (by omega) hb; clear h2; have h2 := hq; clear hbx hk hq)
  refine wl_k rfl (fun K hK => ?_); go_simp; refine hK _ ?_; clear hK K
  refine onlyN_nil ?_
  go_wp2_with fail
  exact bodyPost_ret (res_decErr rfl _ _ (w.heap.size + 1 + 1) rfl h2) rfl ⟨rfl, hb⟩
end Go.Proofs.YtclainfdeghgnaaDoor
namespace Go.Proofs.YtclainfdeghgnaaDoor
open Go.RowKit Go.Proofs.YtclainfdeghgnaaDoor.Nm

theorem aw_rd1 : rdm ⟨#[49, 50, 55]⟩ = some 127 := by decide
theorem aw_rd2 : rdm ⟨#[49]⟩ = some 1 := by decide
theorem aw_bring (m : ByteArray) (hm : m.data.toList = [119, 114, 97, 112]) : bringW (8 : Int).toNat true m.toList (127 + 1) = (-128, 0) := by
  rw [ByteArray.toList_eq, hm]; decide
theorem aw_txt : txt (-128) = [45, 49, 50, 56] := by
  have h1 : dlen 128 = 3 := by rw [dlen_big (by decide), dlen_big (by decide), dlen_small (by decide)]
  unfold txt sgn
  rw [ng_def, show (-128 : Int).natAbs = 128 from rfl, h1]
  decide
theorem aw_Do (op a b md : ByteArray) (ho : op = ⟨#[43]⟩) (ha : a = ⟨#[49, 50, 55]⟩) (hb : b = ⟨#[49]⟩) (hmd : md = ⟨#[119, 114, 97, 112]⟩) (w : World) :
    Calls Tryd.prog 18 #[.string op, .string a, .string b, .int .i64 8, .bool true, .string md] w fun e w' => e = .returned (.tuple #[.string ⟨#[45, 49, 50, 56]⟩, .int .i64 0]) ∧ Below w.heap.size w w' := by
  have hol : op.data.toList = [43] := by rw [ho]
  have hml : md.data.toList = [119, 114, 97, 112] := by rw [hmd]
  have b64 : (127 : Int).natAbs + (1 : Int).natAbs < 10 ^ 64 := by decide
  refine Do_plain op a b md 8 true 127 1 (127 + 1) (-128) 0 (by rw [ha]; exact aw_rd1) (by rw [hb]; exact aw_rd2) (Lib.hid (by decide)) (Lib.hid (by rw [hml]; decide)) (Lib.hid (by rw [hol]; decide))
    (lit_eq hol rfl) (lit_eq hol rfl) (Lib.hid (by decide)) (Lib.hid (by decide)) (lit_eq hol rfl) (lit_eq hol rfl) (Lib.hid (exact_add op 8 true 127 1 hol (Lib.hid b64))) (Lib.hid (by decide)) (Lib.hid (aw_bring md hml)) (Lib.hid (by decide)) _ (Lib.hid fun _ => ?_) (Lib.hid fun h => absurd rfl h) w
  rw [aw_txt]
theorem aw_Div (m : ByteArray) (hm : m = ⟨#[104, 97, 108, 102]⟩) (w : World) :
    Calls Tryd.prog 19 #[.agg (dc 2 0), .agg (dc 3 0), .int .i64 2, .string m] w fun e' w' => e' = .returned (.tuple #[.agg (dc 67 2), .int .i64 0]) ∧ Below w.heap.size w w' := by
  have hml : m.data.toList = [104, 97, 108, 102] := by rw [hm]
  have db : DivBd 2 0 3 0 2 := ⟨by decide, by decide, by decide, by decide, by decide, by decide, by decide, by decide, by decide, by decide, by decide, by decide, by decide, by decide, by decide⟩
  have hz : (67 : Int) = roundS m.data.toList (2 * ((10 ^ ((0 : Int) + 2).toNat : Nat) : Int)) (3 * ((10 ^ (0 : Int).toNat : Nat) : Int)) := by
    rw [hml]; unfold roundS; rw [ng_def, ng_def]; decide
  exact Div_ok 2 0 3 0 2 m 0 (Lib.hid (by rw [hml]; decide)) rfl (by decide) (Lib.hid db) (by decide) (by decide) (by decide) (by decide) (Lib.hid (by rw [hml]; decide)) 67 2 0 67 (Lib.hid hz) (Lib.hid (by decide)) (Lib.hid (by decide)) (Lib.hid (by decide)) (Lib.hid (by decide)) w
theorem aw_Div2 (m : ByteArray) (hm : m = ⟨#[104, 97, 108, 102]⟩) (w : World) :
    Calls Tryd.prog 19 #[.agg #[.int .i64 2, .int .i64 0], .agg #[.int .i64 3, .int .i64 0], .int .i64 2, .string m] w fun e' w' => e' = .returned (.tuple #[.agg #[.int .i64 67, .int .i64 2], .int .i64 0]) ∧ Below w.heap.size w w' := aw_Div m hm w
set_option maxHeartbeats 400000 in
theorem awake_any (w : World) : Calls Tryd.prog 11 #[] w fun e w' => e = .returned (.bool true) ∧ Below w.heap.size w w' := by
  have l1 : ((ByteArray.mk #[45, 49, 50, 56]).toList == [45, 49, 50, 56]) = true := lit_eq (L := [45, 49, 50, 56]) rfl rfl
  go_enter Tryd.func11, Tryd.ntmps11
  go_upto_region 2 with (go_at_call 18; refine (aw_Do _ _ _ _ rfl rfl rfl rfl _).mono ?_; rintro e w1 ⟨rfl, hb⟩)
  go_upto_region 3 with (go_at_call 19; refine (aw_Div2 _ rfl _).mono ?_; rintro e w2 ⟨rfl, hb2⟩; replace hb := hb.trans (hb2.mono hb.size); clear hb2)
  go_wp2_with fail
  go_ret
  exact ⟨rfl, hb.alloc hb.size _⟩
end Go.Proofs.YtclainfdeghgnaaDoor
namespace Go.Proofs.YtclainfdeghgnaaDoor.Lm
/-- One more than the greatest limb. -/
def B : Nat := 4294967296
theorem B_eq : B = 4294967296 := rfl
theorem B_two : B = 2 ^ 32 := rfl
theorem B_pos : 0 < B := by decide
/-- A limb. -/
def lm (n i : Nat) : Nat := n / B ^ i % B
theorem lm_lt (n i : Nat) : lm n i < B := Nat.mod_lt _ B_pos
theorem lm_32 (n i : Nat) : lm n i < 4294967296 := lm_lt n i
theorem pB (k : Nat) : 0 < B ^ k := Nat.pow_pos B_pos
theorem lm_zero (i : Nat) : lm 0 i = 0 := by simp [lm]
theorem lm_of_lt {n i : Nat} (h : n < B ^ i) : lm n i = 0 := by unfold lm; rw [Nat.div_eq_of_lt h]; rfl
theorem lm_of_le {n i k : Nat} (h : n < B ^ k) (hk : k ≤ i) : lm n i = 0 := lm_of_lt (Nat.lt_of_lt_of_le h (Nat.pow_le_pow_right B_pos hk))
theorem mod_succ (n k : Nat) : n % B ^ (k + 1) = n % B ^ k + B ^ k * lm n k := by
  rw [Nat.pow_succ]; exact Nat.mod_mul
theorem div_split (n i : Nat) : n / B ^ i = B * (n / B ^ (i + 1)) + lm n i := by
  rw [Nat.pow_succ, ← Nat.div_div_eq_div_mul]; unfold lm
  have := Nat.div_add_mod (n / B ^ i) B
  omega
theorem lt_of_top {n k : Nat} (h : n < B ^ (k + 1)) (h0 : lm n k = 0) : n < B ^ k := by
  have h1 := mod_succ n k
  rw [Nat.mod_eq_of_lt h, h0] at h1
  have := Nat.mod_lt n (pB k)
  omega

-- how many limbs
def nl (n : Nat) : Nat := if h : n = 0 then 0 else nl (n / B) + 1
termination_by n
decreasing_by exact Nat.div_lt_self (by omega) (by decide)
theorem nl_zero : nl 0 = 0 := by unfold nl; simp
theorem nl_pos {n : Nat} (h : n ≠ 0) : nl n = nl (n / B) + 1 := by rw [nl]; simp [h]
theorem nl_spec (n : Nat) : n < B ^ nl n := by
  induction n using Nat.strongRecOn with
  | _ n ih =>
    by_cases h : n = 0
    · subst h; exact pB _
    · rw [nl_pos h, Nat.pow_succ]
      have h1 := ih (n / B) (Nat.div_lt_self (by omega) (by decide))
      exact (Nat.div_lt_iff_lt_mul B_pos).1 h1
theorem nl_le (n : Nat) : ∀ k, n < B ^ k → nl n ≤ k := by
  induction n using Nat.strongRecOn with
  | _ n ih =>
    intro k hk
    by_cases h : n = 0
    · subst h; rw [nl_zero]; omega
    · rw [nl_pos h]
      cases k with
      | zero => simp at hk; omega
      | succ k =>
        have := ih (n / B) (Nat.div_lt_self (by omega) (by decide)) k (by rw [Nat.div_lt_iff_lt_mul B_pos, ← Nat.pow_succ]; exact hk)
        omega
theorem nl_top {n : Nat} (h : n ≠ 0) : lm n (nl n - 1) ≠ 0 := by
  intro h0
  have h1 : nl n = (nl n - 1) + 1 := by have := nl_pos h; omega
  have h2 := nl_spec n
  rw [h1] at h2
  have h3 := nl_le n _ (lt_of_top h2 h0)
  omega
theorem nl_eq_zero {n : Nat} : nl n = 0 ↔ n = 0 := by
  constructor
  · intro h; have := nl_spec n; rw [h] at this; simpa using this
  · rintro rfl; exact nl_zero
theorem nl_eq {n k : Nat} (h : n < B ^ k) (h0 : k = 0 ∨ lm n (k - 1) ≠ 0) : k = nl n := by
  have h1 := nl_le n k h
  rcases Nat.lt_or_ge (nl n) k with h2 | h2
  · have h3 := nl_spec n
    rcases h0 with h0 | h0
    · omega
    · exact absurd (lm_of_le h3 (by omega)) h0
  · omega
theorem nl_mono {a b : Nat} (h : a ≤ b) : nl a ≤ nl b := nl_le a _ (Nat.lt_of_le_of_lt h (nl_spec b))
theorem lt_of_nl {a b : Nat} (h : nl a < nl b) : a < b := Nat.lt_of_not_le fun hle => by have := nl_mono hle; omega

-- sums
def cyL (a b k : Nat) : Nat := (a % B ^ k + b % B ^ k) / B ^ k
theorem cyL_zero (a b : Nat) : cyL a b 0 = 0 := by simp [cyL, Nat.mod_one]
theorem cyL_le (a b k : Nat) : cyL a b k ≤ 1 := by
  unfold cyL
  have h1 := Nat.mod_lt a (pB k)
  have h2 := Nat.mod_lt b (pB k)
  have : (a % B ^ k + b % B ^ k) / B ^ k < 2 := by rw [Nat.div_lt_iff_lt_mul (pB k)]; omega
  omega
theorem cyL_eq (a b k : Nat) : a % B ^ k + b % B ^ k = (a + b) % B ^ k + B ^ k * cyL a b k := by
  unfold cyL
  have h := Nat.div_add_mod (a % B ^ k + b % B ^ k) (B ^ k)
  rw [← Nat.add_mod] at h
  omega
theorem add_step (a b k : Nat) : lm a k + lm b k + cyL a b k = lm (a + b) k + B * cyL a b (k + 1) := by
  have h0 := cyL_eq a b k
  have h1 := cyL_eq a b (k + 1)
  rw [mod_succ, mod_succ, mod_succ, Nat.pow_succ] at h1
  have hp := pB k
  generalize B ^ k = p at *
  have h2 : p * (lm a k + lm b k + cyL a b k) = p * (lm (a + b) k + B * cyL a b (k + 1)) := by
    rw [Nat.mul_add, Nat.mul_add, Nat.mul_add, ← Nat.mul_assoc]; omega
  exact Nat.eq_of_mul_eq_mul_left hp h2
theorem add_modB (a b k : Nat) : (lm a k + lm b k + cyL a b k) % B = lm (a + b) k := by
  rw [add_step, Nat.add_mul_mod_self_left, Nat.mod_eq_of_lt (lm_lt _ _)]
theorem add_divB (a b k : Nat) : (lm a k + lm b k + cyL a b k) / B = cyL a b (k + 1) := by
  rw [add_step, Nat.add_mul_div_left _ _ B_pos, Nat.div_eq_of_lt (lm_lt _ _), Nat.zero_add]
theorem cyL_top {a b k : Nat} (ha : a < B ^ k) (hb : b < B ^ k) : cyL a b k = lm (a + b) k ∧ a + b < B ^ (k + 1) := by
  have h : a + b < B ^ (k + 1) := by
    rw [Nat.pow_succ]
    have h1 : B ^ k * 2 ≤ B ^ k * B := Nat.mul_le_mul_left _ (by decide)
    omega
  refine ⟨?_, h⟩
  have h2 := add_step a b k
  rw [lm_of_lt ha, lm_of_lt hb] at h2
  have h3 : cyL a b (k + 1) = 0 := by
    unfold cyL
    rw [Nat.mod_eq_of_lt (Nat.lt_of_lt_of_le ha (Nat.pow_le_pow_right B_pos (by omega))), Nat.mod_eq_of_lt (Nat.lt_of_lt_of_le hb (Nat.pow_le_pow_right B_pos (by omega)))]
    exact Nat.div_eq_of_lt h
  rw [h3] at h2
  omega

-- differences
def bwL (a b k : Nat) : Nat := if a % B ^ k < b % B ^ k then 1 else 0
theorem bwL_le (a b k : Nat) : bwL a b k ≤ 1 := by unfold bwL; split <;> omega
theorem bwL_zero (a b : Nat) : bwL a b 0 = 0 := by simp [bwL, Nat.mod_one]
theorem bwL_eq {a b : Nat} (h : b ≤ a) (k : Nat) : (a - b) % B ^ k + b % B ^ k = a % B ^ k + B ^ k * bwL a b k := by
  have e := cyL_eq (a - b) b k
  rw [show a - b + b = a from by omega] at e
  rw [e]
  congr 2
  have h1 := Nat.mod_lt (a - b) (pB k)
  have h2 := Nat.mod_lt a (pB k)
  have h3 := cyL_le (a - b) b k
  unfold bwL
  generalize (a - b) % B ^ k = x at *
  generalize b % B ^ k = y at *
  generalize a % B ^ k = z at *
  generalize cyL (a - b) b k = c at *
  generalize B ^ k = p at *
  rcases Nat.lt_or_ge c 1 with h4 | h4
  · have h5 : c = 0 := by omega
    subst h5
    rw [if_neg (by omega)]
  · have h5 : c = 1 := by omega
    subst h5
    rw [if_pos (by omega)]
theorem sub_step {a b : Nat} (h : b ≤ a) (k : Nat) : lm (a - b) k + lm b k + bwL a b k = lm a k + B * bwL a b (k + 1) := by
  have h0 := bwL_eq h k
  have h1 := bwL_eq h (k + 1)
  rw [mod_succ, mod_succ, mod_succ, Nat.pow_succ] at h1
  have hp := pB k
  generalize B ^ k = p at *
  have h2 : p * (lm (a - b) k + lm b k + bwL a b k) = p * (lm a k + B * bwL a b (k + 1)) := by
    rw [Nat.mul_add, Nat.mul_add, Nat.mul_add, ← Nat.mul_assoc]; omega
  exact Nat.eq_of_mul_eq_mul_left hp h2
theorem sub_lo {a b : Nat} (h : b ≤ a) (k : Nat) (hlt : lm a k < bwL a b k + lm b k) : bwL a b (k + 1) = 1 ∧ lm (a - b) k = lm a k + B - (bwL a b k + lm b k) := by
  have h1 := sub_step h k
  have h2 := bwL_le a b (k + 1)
  have h3 := lm_lt (a - b) k
  have : bwL a b (k + 1) = 1 := by
    rcases Nat.lt_or_ge (bwL a b (k + 1)) 1 with h4 | h4
    · have h5 : bwL a b (k + 1) = 0 := by omega
      rw [h5] at h1; omega
    · omega
  rw [this] at h1
  exact ⟨this, by omega⟩
theorem sub_hi {a b : Nat} (h : b ≤ a) (k : Nat) (hge : bwL a b k + lm b k ≤ lm a k) : bwL a b (k + 1) = 0 ∧ lm (a - b) k = lm a k - (bwL a b k + lm b k) := by
  have h1 := sub_step h k
  have h2 := bwL_le a b (k + 1)
  have h3 := lm_lt (a - b) k
  have : bwL a b (k + 1) = 0 := by
    rcases Nat.lt_or_ge (bwL a b (k + 1)) 1 with h4 | h4
    · omega
    · have h5 : bwL a b (k + 1) = 1 := by omega
      rw [h5] at h1; omega
  rw [this] at h1
  exact ⟨this, by omega⟩

-- comparison
def cmpN (a b : Nat) : Int := if a < b then -1 else if b < a then 1 else 0
theorem lt_of_lm {a b i : Nat} (he : a / B ^ (i + 1) = b / B ^ (i + 1)) (h : lm a i < lm b i) : a < b := by
  have h1 := div_split a i
  have h2 := div_split b i
  have : a / B ^ i < b / B ^ i := by rw [h1, h2, he]; omega
  exact Nat.lt_of_not_le fun hle => by have := Nat.div_le_div_right (c := B ^ i) hle; omega
theorem high_eq {a b i : Nat} (he : a / B ^ (i + 1) = b / B ^ (i + 1)) (h : lm a i = lm b i) : a / B ^ i = b / B ^ i := by
  rw [div_split a i, div_split b i, he, h]

-- one limb put in the place of another one
def setL (n p d : Nat) : Nat := n % B ^ p + B ^ p * (d + B * (n / B ^ (p + 1)))
theorem set_eq (n p d : Nat) : setL n p d + B ^ p * lm n p = n + B ^ p * d := by
  unfold setL
  have h1 := Nat.div_add_mod n (B ^ p)
  rw [div_split n p] at h1
  rw [Nat.mul_add] at h1 ⊢
  omega
theorem lm_low (x y m k : Nat) (h : k < m) : lm (x + B ^ m * y) k = lm x k := by
  unfold lm
  obtain ⟨d, rfl⟩ := Nat.exists_eq_add_of_lt h
  have : B ^ (k + d + 1) * y = B ^ k * (B * (B ^ d * y)) := by
    rw [show k + d + 1 = k + (1 + d) from by omega, Nat.pow_add, Nat.pow_add, Nat.mul_assoc, Nat.mul_assoc, Nat.pow_one]
  rw [this, Nat.add_mul_div_left _ _ (pB k), Nat.add_mul_mod_self_left]
theorem lm_mod (n m k : Nat) (h : k < m) : lm (n % B ^ m) k = lm n k := by
  have := lm_low (n % B ^ m) (n / B ^ m) m k h
  rw [Nat.mod_add_div] at this
  exact this.symm
theorem div_high (n i j : Nat) : lm (n / B ^ i) j = lm n (i + j) := by
  unfold lm; rw [Nat.div_div_eq_div_mul, ← Nat.pow_add]
theorem lm_setL (n p : Nat) {d : Nat} (hd : d < B) (j : Nat) : lm (setL n p d) j = if j = p then d else lm n j := by
  unfold setL
  rcases Nat.lt_trichotomy j p with h | h | h
  · rw [if_neg (by omega), lm_low _ _ _ _ h, lm_mod _ _ _ h]
  · subst h
    rw [if_pos rfl]
    unfold lm
    rw [Nat.add_mul_div_left _ _ (pB j), Nat.div_eq_of_lt (Nat.mod_lt _ (pB j)), Nat.zero_add, Nat.add_mul_mod_self_left, Nat.mod_eq_of_lt hd]
  · rw [if_neg (by omega)]
    obtain ⟨e, rfl⟩ := Nat.exists_eq_add_of_lt h
    have h1 : (n % B ^ p + B ^ p * (d + B * (n / B ^ (p + 1)))) / B ^ (p + 1) = n / B ^ (p + 1) := by
      rw [Nat.pow_succ, ← Nat.div_div_eq_div_mul, Nat.add_mul_div_left _ _ (pB p), Nat.div_eq_of_lt (Nat.mod_lt _ (pB p)), Nat.zero_add, Nat.add_mul_div_left _ _ B_pos, Nat.div_eq_of_lt hd, Nat.zero_add]
    have h2 := div_high (n % B ^ p + B ^ p * (d + B * (n / B ^ (p + 1)))) (p + 1) e
    have h3 := div_high n (p + 1) e
    rw [h1] at h2
    rw [show p + e + 1 = p + 1 + e from by omega, ← h2, h3]
def bt (n i : Nat) : Nat := n / 2 ^ i % 2
theorem bt_le (n i : Nat) : bt n i ≤ 1 := by unfold bt; omega
theorem pow_bit (i : Nat) : B ^ (i / 32) * 2 ^ (i % 32) = 2 ^ i := by
  rw [B_two, ← Nat.pow_mul, ← Nat.pow_add, Nat.div_add_mod]
theorem bt_lm (n i : Nat) : lm n (i / 32) / 2 ^ (i % 32) % 2 = bt n i := by
  unfold bt lm
  rw [← pow_bit i, ← Nat.div_div_eq_div_mul]
  generalize n / B ^ (i / 32) = x
  have hr : i % 32 < 32 := Nat.mod_lt _ (by decide)
  generalize i % 32 = r at *
  have h := Nat.testBit_mod_two_pow x 32 r
  rw [Nat.testBit_eq_decide_div_mod_eq, Nat.testBit_eq_decide_div_mod_eq, ← B_two] at h
  simp only [hr, decide_true, Bool.true_and] at h
  have := decide_eq_decide.1 h
  omega
theorem bt_step (n i : Nat) : n / 2 ^ i = 2 * (n / 2 ^ (i + 1)) + bt n i := by
  unfold bt
  rw [Nat.pow_succ, ← Nat.div_div_eq_div_mul]; omega

-- quotients, bit by bit
def qn (a b i : Nat) : Nat := a / 2 ^ i / b * 2 ^ i
def rn (a b i : Nat) : Nat := a / 2 ^ i % b
theorem two_div_yes {x b t : Nat} (h : b ≤ 2 * (x % b) + t) (ht : t ≤ 1) (hb : 0 < b) : (2 * x + t) / b = 2 * (x / b) + 1 ∧ (2 * x + t) % b = 2 * (x % b) + t - b := by
  have h1 := Nat.div_add_mod x b
  have h2 := Nat.mod_lt x hb
  generalize x / b = q at *
  generalize x % b = r at *
  have e : 2 * x + t = (2 * r + t - b) + b * (2 * q + 1) := by
    rw [Nat.mul_add, Nat.mul_one, ← h1, show b * (2 * q) = 2 * (b * q) from by rw [Nat.mul_left_comm]]; omega
  rw [e, Nat.add_mul_div_left _ _ hb, Nat.add_mul_mod_self_left, Nat.div_eq_of_lt (by omega), Nat.mod_eq_of_lt (by omega)]
  exact ⟨by omega, rfl⟩
theorem two_div_no {x b t : Nat} (h : 2 * (x % b) + t < b) : (2 * x + t) / b = 2 * (x / b) ∧ (2 * x + t) % b = 2 * (x % b) + t := by
  have h1 := Nat.div_add_mod x b
  have hb : 0 < b := by omega
  generalize x / b = q at *
  generalize x % b = r at *
  have e : 2 * x + t = (2 * r + t) + b * (2 * q) := by
    rw [← h1, show b * (2 * q) = 2 * (b * q) from by rw [Nat.mul_left_comm]]; omega
  rw [e, Nat.add_mul_div_left _ _ hb, Nat.add_mul_mod_self_left, Nat.div_eq_of_lt h, Nat.mod_eq_of_lt h]
  exact ⟨by omega, rfl⟩
theorem q_yes {a b i : Nat} (h : b ≤ 2 * rn a b (i + 1) + bt a i) (hb : 0 < b) : qn a b i = qn a b (i + 1) + 2 ^ i ∧ rn a b i = 2 * rn a b (i + 1) + bt a i - b := by
  unfold qn rn at *
  obtain ⟨h1, h2⟩ := two_div_yes (x := a / 2 ^ (i + 1)) (t := bt a i) h (bt_le a i) hb
  rw [bt_step a i, h1, h2]
  refine ⟨?_, rfl⟩
  rw [Nat.pow_succ]
  generalize a / (2 ^ i * 2) / b = q
  generalize 2 ^ i = p
  grind
theorem q_no {a b i : Nat} (h : 2 * rn a b (i + 1) + bt a i < b) : qn a b i = qn a b (i + 1) ∧ rn a b i = 2 * rn a b (i + 1) + bt a i := by
  unfold qn rn at *
  obtain ⟨h1, h2⟩ := two_div_no (x := a / 2 ^ (i + 1)) (t := bt a i) h
  rw [bt_step a i, h1, h2]
  refine ⟨?_, rfl⟩
  rw [Nat.pow_succ]
  generalize a / (2 ^ i * 2) / b = q
  generalize 2 ^ i = p
  grind
theorem q_start {a b l : Nat} (h : a < B ^ l) : qn a b (32 * l) = 0 ∧ rn a b (32 * l) = 0 := by
  unfold qn rn
  have : 2 ^ (32 * l) = B ^ l := by rw [B_two, ← Nat.pow_mul]
  rw [this, Nat.div_eq_of_lt h]; simp
theorem q_end (a b : Nat) : qn a b 0 = a / b ∧ rn a b 0 = a % b := by unfold qn rn; simp
/-- A bit that is not there, put in. -/
theorem or_bit (a b i : Nat) : lm (qn a b (i + 1)) (i / 32) ||| 2 ^ (i % 32) = lm (qn a b (i + 1)) (i / 32) + 2 ^ (i % 32) := by
  have hr : i % 32 < 32 := Nat.mod_lt _ (by decide)
  have hdiv : ∃ y, lm (qn a b (i + 1)) (i / 32) = 2 ^ (i % 32 + 1) * y := by
    unfold qn lm
    have e : 2 ^ (i + 1) = 2 ^ (i % 32 + 1) * B ^ (i / 32) := by rw [Nat.pow_succ, ← pow_bit i, Nat.pow_succ]; generalize B ^ (i / 32) = x; generalize 2 ^ (i % 32) = y; grind
    rw [e, ← Nat.mul_assoc, Nat.mul_div_cancel _ (pB _)]
    generalize a / (2 ^ (i % 32 + 1) * B ^ (i / 32)) / b = q
    generalize i % 32 = r at *
    have e2 : B = 2 ^ (r + 1) * 2 ^ (31 - r) := by rw [B_two, ← Nat.pow_add]; congr 1; omega
    rw [e2, Nat.mul_comm q, Nat.mul_mod_mul_left]
    exact ⟨_, rfl⟩
  obtain ⟨y, hy⟩ := hdiv
  rw [hy]
  exact (Nat.two_pow_add_eq_or_of_lt (Nat.pow_lt_pow_right (by decide) (by omega)) y).symm
theorem or_lt (a b i : Nat) : lm (qn a b (i + 1)) (i / 32) ||| 2 ^ (i % 32) < B := by
  rw [B_two]
  exact Nat.or_lt_two_pow (lm_lt _ _) (Nat.pow_lt_pow_right (by decide) (Nat.mod_lt _ (by decide)))
theorem set_bit {a b i : Nat} (h : b ≤ 2 * rn a b (i + 1) + bt a i) (hb : 0 < b) : setL (qn a b (i + 1)) (i / 32) (lm (qn a b (i + 1)) (i / 32) ||| 2 ^ (i % 32)) = qn a b i := by
  have s := set_eq (qn a b (i + 1)) (i / 32) (lm (qn a b (i + 1)) (i / 32) ||| 2 ^ (i % 32))
  rw [or_bit, Nat.mul_add, pow_bit] at s
  rw [or_bit, (q_yes h hb).1]
  omega
end Go.Proofs.YtclainfdeghgnaaDoor.Lm

namespace Go.Proofs.YtclainfdeghgnaaDoor
open Go.RowKit Go.Proofs.YtclainfdeghgnaaDoor.Nm Go.Proofs.YtclainfdeghgnaaDoor.Lm

/-- The first n cells behind A are the limbs of N. -/
def Lr (w : World) (A : Option Addr) (n N : Nat) : Prop := 0 < n → ∃ g, A = some ⟨g, 0, none⟩ ∧ g < w.heap.size ∧ ∀ j, j < n → w.cell? ⟨g, j, none⟩ = some (.int .u32 (lm N j))
theorem Lr.below {w w' : World} {A : Option Addr} {n N : Nat} (h : Lr w A n N) (hb : Below w.heap.size w w') : Lr w' A n N := fun hn => by
  obtain ⟨g, h1, h2, h3⟩ := h hn
  refine ⟨g, h1, Nat.lt_of_lt_of_le h2 hb.size, fun j hj => ?_⟩
  rw [hb.cell (p := ⟨g, j, none⟩) h2]; exact h3 j hj
theorem Lr.le {w : World} {A : Option Addr} {n m N : Nat} (h : Lr w A n N) (hm : m ≤ n) : Lr w A m N := fun hn => by
  obtain ⟨g, h1, h2, h3⟩ := h (by omega)
  exact ⟨g, h1, h2, fun j hj => h3 j (by omega)⟩
theorem Lr.at_ {w : World} {A : Option Addr} {n N k : Nat} (h : Lr w A n N) (hk : k < n) : ∃ g, A = some ⟨g, 0, none⟩ ∧ g < w.heap.size ∧ w.cell? ⟨g, k, none⟩ = some (.int .u32 (lm N k)) := by
  obtain ⟨g, h1, h2, h3⟩ := h (by omega)
  exact ⟨g, h1, h2, h3 k hk⟩
/-- .. and lie in no block below B0. -/
def LrB (B0 : Nat) (w : World) (A : Option Addr) (n N : Nat) : Prop := 0 < n → ∃ g, A = some ⟨g, 0, none⟩ ∧ B0 ≤ g ∧ g < w.heap.size ∧ ∀ j, j < n → w.cell? ⟨g, j, none⟩ = some (.int .u32 (lm N j))
theorem LrB.lr {B0 : Nat} {w : World} {A : Option Addr} {n N : Nat} (h : LrB B0 w A n N) : Lr w A n N := fun hn => by
  obtain ⟨g, h1, _, h2, h3⟩ := h hn
  exact ⟨g, h1, h2, h3⟩
theorem LrB.le {B0 : Nat} {w : World} {A : Option Addr} {n m N : Nat} (h : LrB B0 w A n N) (hm : m ≤ n) : LrB B0 w A m N := fun hn => by
  obtain ⟨g, h1, h0, h2, h3⟩ := h (by omega)
  exact ⟨g, h1, h0, h2, fun j hj => h3 j (by omega)⟩
theorem LrB.low {B0 B1 : Nat} {w : World} {A : Option Addr} {n N : Nat} (h : LrB B0 w A n N) (hm : B1 ≤ B0) : LrB B1 w A n N := fun hn => by
  obtain ⟨g, h1, h0, h2, h3⟩ := h hn
  exact ⟨g, h1, by omega, h2, h3⟩
theorem LrB.below {B0 : Nat} {w w' : World} {A : Option Addr} {n N : Nat} (h : LrB B0 w A n N) (hb : Below w.heap.size w w') : LrB B0 w' A n N := fun hn => by
  obtain ⟨g, h1, h0, h2, h3⟩ := h hn
  refine ⟨g, h1, h0, Nat.lt_of_lt_of_le h2 hb.size, fun j hj => ?_⟩
  rw [hb.cell (p := ⟨g, j, none⟩) h2]; exact h3 j hj
theorem LrB.setCell {B0 : Nat} {w : World} {A : Option Addr} {n N : Nat} (h : LrB B0 w A n N) {p : Addr} (hp : p.block < B0) (v : Value) : LrB B0 (w.setCell p v) A n N := fun hn => by
  obtain ⟨g, h1, h0, h2, h3⟩ := h hn
  refine ⟨g, h1, h0, by simpa using h2, fun j hj => ?_⟩
  rw [World.cell?_setCell_other w p ⟨g, j, none⟩ v (fun e => by subst e; simp at hp; omega)]; exact h3 j hj
theorem u82 : Tryd.prog.underlying 37 = some (.slice 53) := by kernel_rfl
theorem info121 : (Tryd.prog.info? 53).map (fun i => (i.zero, i.size, i.bytes)) = some (some (.int .u32 0), 1, 4) := by kernel_rfl
set_option maxHeartbeats 400000 in
theorem trim_any (A : Option Addr) (n c N : Nat) (w : World) (h : Lr w A n N) (hN : N < B ^ n) (hc : n ≤ c) (hn : n ≤ 1000) :
    Calls Tryd.prog 26 #[.slice A n c] w fun e w' => e = .returned (.slice A (nl N) c) ∧ w = w' := by
  have hle := nl_le N n hN
  have HN := Lib.hid hN
  have HL := Lib.hid h
  clear hN h
  go_enter Tryd.func26, Tryd.ntmps26
  go_wp2
  go_loop [0] (fun v => ∃ k : Nat, nl N ≤ k ∧ k ≤ n ∧ v = .slice A k c) (fun v => match v with | .slice _ k _ => k | _ => 0)
  case atStart => exact ⟨n, hle, Nat.le_refl _, rfl⟩
  case round =>
    obtain ⟨k, hk1, hk2, rfl⟩ := hrel
    rcases k with _ | j
    · have e0 : nl N = 0 := by omega
      have E0 := Lib.hid e0
      clear e0
      go_wp2
      go_ret
      rw [E0.out]
      exact ⟨rfl, rfl⟩
    · obtain ⟨g, rfl, hg, hcell⟩ := HL.out.at_ (k := j) (by omega)
      by_cases h0 : lm N j = 0
      · have hlt : nl N ≤ j := by
          rcases Nat.lt_or_ge j (nl N) with h1 | h1
          · exfalso
            have h2 : nl N = j + 1 := by omega
            have h3 := nl_top (n := N) (by intro e; rw [e, nl_zero] at h2; omega)
            rw [h2] at h3
            exact h3 h0
          · exact h1
        rw [h0] at hcell
        go_wp2
        go_round
        case rel => exact ⟨j, hlt, by omega, rfl⟩
        case measure => simp
      · have e0 : nl N = j + 1 := (nl_eq (k := j + 1) (by
            have := nl_spec N
            exact Nat.lt_of_lt_of_le this (Nat.pow_le_pow_right B_pos hk1)) (Or.inr h0)).symm
        have E0 := Lib.hid e0
        clear e0
        have h0' : ¬ ((lm N j : Int) = 0) := by omega
        go_wp2
        go_ret
        rw [E0.out]
        exact ⟨rfl, rfl⟩
end Go.Proofs.YtclainfdeghgnaaDoor

namespace Go.Proofs.YtclainfdeghgnaaDoor
open Go.RowKit Go.Proofs.YtclainfdeghgnaaDoor.Nm Go.Proofs.YtclainfdeghgnaaDoor.Lm

/-- Limbs as cells. -/
def lrow (N n : Nat) : List Value := (List.range n).map fun i => .int .u32 (lm N i)
theorem lrow_succ (N n : Nat) : lrow N n ++ [.int .u32 (lm N n)] = lrow N (n + 1) := by unfold lrow; rw [List.range_succ]; simp
theorem wrap32 (t : Nat) : IntKind.u32.wrap (t : Int) = ((t % B : Nat) : Int) := by
  rw [B_eq]; unfold IntKind.wrap; simp [IntKind.signed, IntKind.bits]
theorem run_bs82 (w : World) (z : Int) : (Instr.buildSlice 37 1 #[(0, .int .u32 z)]).run Tryd.prog w = .ok (.slice (some ⟨w.heap.size, 0, none⟩) 1 1) (w.alloc (.cells #[.int .u32 z] 53)) := by kernel_rfl
theorem ex_bs82 {ev : Operand → Value} {o : Oper} {w : World} (x : Operand) (ho : o.op = .buildSlice 37 1 #[(0, x)]) {z : Int} (hx : ev x = .int .u32 z) :
    (execOp ev o).run Tryd.prog w = .ok (.value (.slice (some ⟨w.heap.size, 0, none⟩) 1 1)) (w.alloc (.cells #[.int .u32 z] 53)) := by
  unfold execOp
  have := run_bs82 w z
  simp [ho, hx, this, Result.andThen]
/-- One more limb behind a row of the call's own. -/
theorem wl_push {ops : Array Oper} {rest : List Oper} {a : Act} {w w0 : World} {Q : Exit → Act → World → Prop} {d1 d2 : Option Tmp} {ty1 ty2 : TypeId} {p1 p2 : String} {f1 f2 : Array Edge} {x s t : Operand} {v : Value} {N k : Nat}
    (hx : a.eval x = .int .u32 (lm N k)) (hown : w.ownsRow w0.heap.size 53 1 v k (lrow N k)) (hb : Below w0.heap.size w0 w) (hk : k ≤ 4000) (hs : ∀ u, (a.put d1 u).eval s = v) (ht : ∀ u, (a.put d1 u).eval t = u)
    (h : ∀ v' w', w'.ownsRow w0.heap.size 53 1 v' (k + 1) (lrow N (k + 1)) → Below w0.heap.size w0 w' → wpList Tryd.prog ops Q rest ((a.put d1 (.slice (some ⟨w.heap.size, 0, none⟩) 1 1)).put d2 v') w') :
    wpList Tryd.prog ops Q (⟨d1, .buildSlice 37 1 #[(0, x)], ty1, p1, f1, none⟩ :: ⟨d2, .call { callee := .builtin .append, args := #[s, t], argTypes := #[37, 37] }, ty2, p2, f2, none⟩ :: rest) a w := by
  obtain ⟨i0, hi, hz0, hz1, hz2⟩ := info_parts info121
  refine wl_w rfl (ex_bs82 _ rfl hx) ?_
  refine wpList_append_own _ rfl s t 37 rfl w0.heap.size 53 i0 _ 1 4 u82 hi hz0 hz1 hz2 rfl (by decide) v k (lrow N k) (hs _) (hown.alloc _) ⟨w.heap.size, 0, none⟩ 1 1 [.int .u32 (lm N k)] (ht _) rfl ?_ ?_ ?_ ?_ ?_ ?_
  · intro j u hj
    rw [show (Addr.add ⟨w.heap.size, 0, none⟩ j) = ⟨w.heap.size, j, none⟩ by simp [Addr.add]; exact fun h => h.symm, cell_of_row _ _ _ _ _ _ (ha_new rfl)]
    simpa using hj
  · intro u hu
    simp at hu; subst hu; rfl
  · unfold maxLen; omega
  · omega
  · have := hb.size; simp; omega
  · intro v' w4 hown' hgrow _
    rw [lrow_succ] at hown'
    exact h v' w4 hown' ((hb.alloc hb.size _).grown hgrow (by have := hb.size; simp; omega) (fun k hk => (hown.lt k hk).1))
theorem own_lr {w : World} {B0 k N : Nat} {v : Value} (h : w.ownsRow B0 53 1 v k (lrow N k)) (hk : 0 < k) : ∃ g cap, v = .slice (some ⟨g, 0, none⟩) k cap ∧ LrB B0 w (some ⟨g, 0, none⟩) k N ∧ k ≤ cap := by
  rcases h.2 with ⟨_, h0⟩ | ⟨g, cap, cur, hv, hB, hg, h1, _, h3, h4⟩
  · omega
  · refine ⟨g, cap, hv, fun _ => ⟨g, rfl, hB, heap_lt hg, fun j hj => ?_⟩, h1⟩
    rw [cell_of_row _ _ _ _ _ _ hg]
    have : (lrow N k)[j]? = some (.int .u32 (lm N j)) := by unfold lrow; simp [hj]
    rw [← h4, Nat.mul_one, List.getElem?_take_of_lt hj] at this
    simpa using this
set_option maxHeartbeats 2000000 in
set_option maxRecDepth 100000 in
theorem plus_any (A A' : Option Addr) (n n' c c' a b : Nat) (w : World) (ha : Lr w A n a) (hb : Lr w A' n' b) (la : a < B ^ n) (lb : b < B ^ n') (hn : n ≤ 900) (hn' : n' ≤ 900) :
    Calls Tryd.prog 47 #[.slice A n c, .slice A' n' c'] w fun e w' => ∃ A2 c2, e = .returned (.slice A2 (nl (a + b)) c2) ∧ nl (a + b) ≤ c2 ∧ LrB w.heap.size w' A2 (nl (a + b)) (a + b) ∧ Below w.heap.size w w' := by
  obtain ⟨i0, hi, hz0, hz1, hz2⟩ := info_parts info121
  have HA := Lib.hid ha
  have HB := Lib.hid hb
  have LA := Lib.hid la
  have LB := Lib.hid lb
  clear ha hb la lb
  go_enter Tryd.func47, Tryd.ntmps47
  go_wp2_with fail
  go_loopw [5, 6, 7] (fun v cr i wr => ∃ k : Nat, k ≤ n + n' ∧ (k = 0 ∨ k ≤ n ∨ k ≤ n') ∧ i = .int .i64 (k : Int) ∧ cr = .int .u64 ((cyL a b k : Nat) : Int) ∧ wr.ownsRow w.heap.size 53 1 v k (lrow (a + b) k) ∧ Below w.heap.size w wr) (fun _ _ i _ => (n + n' - intOf i).toNat)
  case atStart => exact ⟨0, by omega, Or.inl rfl, rfl, by rw [cyL_zero]; rfl, ⟨rfl, Or.inl ⟨rfl, rfl⟩⟩, Below.refl _ _⟩
  case round =>
    obtain ⟨k, hk1, hk2, rfl, rfl, hown, hbl⟩ := hrel
    obtain ⟨cr, hcr⟩ : ∃ cr, cr = cyL a b k := ⟨_, rfl⟩
    have hc1 : cr ≤ 1 := by rw [hcr]; exact cyL_le a b k
    rw [← hcr]
    by_cases ka : k < n
    · obtain ⟨g, rfl, hg, ca⟩ := HA.out.at_ ka
      have ca' := (hbl.cell (p := ⟨g, k, none⟩) hg).trans ca
      have hx := lm_32 a k
      obtain ⟨x, ex⟩ : ∃ x, x = lm a k := ⟨_, rfl⟩
      rw [← ex] at ca' hx
      by_cases kb : k < n'
      · obtain ⟨g', rfl, hg', cb⟩ := HB.out.at_ kb
        have cb' := (hbl.cell (p := ⟨g', k, none⟩) hg').trans cb
        clear ca cb
        have hy := lm_32 b k
        obtain ⟨y, ey⟩ : ∃ y, y = lm b k := ⟨_, rfl⟩
        rw [← ey] at cb' hy
        have HE := Lib.hid (And.intro hcr (And.intro ex ey))
        clear hcr ex ey
        have HO := Lib.hid hown
        have HBL := Lib.hid hbl
        clear hown hbl
        go_upto_region 10 with (fail)
        apply wp_region_lit
        refine wl_k rfl (fun K hK => ?_); go_simp; refine hK _ ?_; clear hK K
        refine wl_k rfl (fun K hK => ?_); go_simp; refine hK _ ?_; clear hK K
        refine wl_k rfl (fun K hK => ?_); go_simp; refine hK _ ?_; clear hK K
        refine wl_push (N := a + b) (k := k) ?_ HO.out HBL.out (by omega) (fun _ => rfl) (fun _ => rfl) ?_
        · show Value.int IntKind.u32 (IntKind.u32.wrap _) = _
          rw [← add_modB, ← HE.out.1, ← HE.out.2.1, ← HE.out.2.2, ← wrap32]; congr 2; omega
        intro v' w2 hown2 hb2
        clear HO HBL
        have HO := Lib.hid hown2
        have HBL := Lib.hid hb2
        clear hown2 hb2
        simp only [put_lit, List.set_cons_zero, List.set_cons_succ]
        go_wp2_with fail
        go_roundw
        case rel =>
          refine ⟨k + 1, by omega, by omega, by go_num, ?_, HO.out, HBL.out⟩
          rw [← add_divB, ← HE.out.1, ← HE.out.2.1, ← HE.out.2.2, B_eq]
          congr 1
          omega
        case measure => simp [intOf]; omega
      · have HE := Lib.hid (And.intro hcr (And.intro ex (lm_of_le LB.out (Nat.le_of_not_lt kb))))
        clear hcr ex ca
        have HO := Lib.hid hown
        have HBL := Lib.hid hbl
        clear hown hbl
        go_upto_region 10 with (fail)
        apply wp_region_lit
        refine wl_k rfl (fun K hK => ?_); go_simp; refine hK _ ?_; clear hK K
        refine wl_k rfl (fun K hK => ?_); go_simp; refine hK _ ?_; clear hK K
        refine wl_k rfl (fun K hK => ?_); go_simp; refine hK _ ?_; clear hK K
        refine wl_push (N := a + b) (k := k) ?_ HO.out HBL.out (by omega) (fun _ => rfl) (fun _ => rfl) ?_
        · show Value.int IntKind.u32 (IntKind.u32.wrap _) = _
          rw [← add_modB, ← HE.out.1, ← HE.out.2.1, HE.out.2.2, ← wrap32]; congr 2; omega
        intro v' w2 hown2 hb2
        clear HO HBL
        have HO := Lib.hid hown2
        have HBL := Lib.hid hb2
        clear hown2 hb2
        simp only [put_lit, List.set_cons_zero, List.set_cons_succ]
        go_wp2_with fail
        go_roundw
        case rel =>
          refine ⟨k + 1, by omega, by omega, by go_num, ?_, HO.out, HBL.out⟩
          rw [← add_divB, ← HE.out.1, ← HE.out.2.1, HE.out.2.2, B_eq]
          congr 1
          omega
        case measure => simp [intOf]; omega
    · by_cases kb : k < n'
      · obtain ⟨g', rfl, hg', cb⟩ := HB.out.at_ kb
        have cb' := (hbl.cell (p := ⟨g', k, none⟩) hg').trans cb
        clear cb
        have hy := lm_32 b k
        obtain ⟨y, ey⟩ : ∃ y, y = lm b k := ⟨_, rfl⟩
        rw [← ey] at cb' hy
        have HE := Lib.hid (And.intro hcr (And.intro ey (lm_of_le LA.out (Nat.le_of_not_lt ka))))
        clear hcr ey
        have HO := Lib.hid hown
        have HBL := Lib.hid hbl
        clear hown hbl
        go_upto_region 10 with (fail)
        apply wp_region_lit
        refine wl_k rfl (fun K hK => ?_); go_simp; refine hK _ ?_; clear hK K
        refine wl_k rfl (fun K hK => ?_); go_simp; refine hK _ ?_; clear hK K
        refine wl_k rfl (fun K hK => ?_); go_simp; refine hK _ ?_; clear hK K
        refine wl_push (N := a + b) (k := k) ?_ HO.out HBL.out (by omega) (fun _ => rfl) (fun _ => rfl) ?_
        · show Value.int IntKind.u32 (IntKind.u32.wrap _) = _
          rw [← add_modB, ← HE.out.1, ← HE.out.2.1, HE.out.2.2, ← wrap32]; congr 2; omega
        intro v' w2 hown2 hb2
        clear HO HBL
        have HO := Lib.hid hown2
        have HBL := Lib.hid hb2
        clear hown2 hb2
        simp only [put_lit, List.set_cons_zero, List.set_cons_succ]
        go_wp2_with fail
        go_roundw
        case rel =>
          refine ⟨k + 1, by omega, by omega, by go_num, ?_, HO.out, HBL.out⟩
          rw [← add_divB, ← HE.out.1, ← HE.out.2.1, HE.out.2.2, B_eq]
          congr 1
          omega
        case measure => simp [intOf]; omega
      · have hct := cyL_top (Nat.lt_of_lt_of_le LA.out (Nat.pow_le_pow_right B_pos (Nat.le_of_not_lt ka))) (Nat.lt_of_lt_of_le LB.out (Nat.pow_le_pow_right B_pos (Nat.le_of_not_lt kb)))
        rw [← hcr] at hct
        have HE := Lib.hid hct
        clear hct hcr
        have HO := Lib.hid hown
        have HBL := Lib.hid hbl
        clear hown hbl
        go_upto_region 12 with (fail)
        apply wp_region_lit
        refine wl_k rfl (fun K hK => ?_); go_simp; refine hK _ ?_; clear hK K
        refine wl_k rfl (fun K hK => ?_); go_simp; refine hK _ ?_; clear hK K
        refine wl_k rfl (fun K hK => ?_); go_simp; refine hK _ ?_; clear hK K
        refine wl_push (N := a + b) (k := k) ?_ HO.out HBL.out (by omega) (fun _ => rfl) (fun _ => rfl) ?_
        · show Value.int IntKind.u32 (IntKind.u32.wrap _) = _
          rw [← HE.out.1, wrap32, Nat.mod_eq_of_lt (by rw [B_eq]; omega)]
        intro v' w2 hown2 hb2
        clear HO HBL
        obtain ⟨g2, c2, rfl, hl2, hc2⟩ := own_lr hown2 (by omega)
        clear hown2
        have HL := Lib.hid hl2
        have HBL := Lib.hid hb2
        clear hl2 hb2
        simp only [put_lit, List.set_cons_zero, List.set_cons_succ]
        refine wl_ck rfl (fun K hK => ?_); go_simp; refine ⟨_, _, ⟨rfl, rfl⟩, hK _ _ ⟨_, trim_any _ (k + 1) c2 (a + b) _ HL.out.lr HE.out.2 hc2 (by omega), ?_⟩⟩; clear hK K; rintro e w3 ⟨rfl, rfl⟩; refine ⟨_, rfl, ?_⟩; simp only [put_lit, List.set_cons_zero, List.set_cons_succ]
        go_wp2_with fail
        go_ret
        have hle := nl_le _ _ HE.out.2
        exact ⟨_, _, rfl, by omega, HL.out.le hle, HBL.out⟩
end Go.Proofs.YtclainfdeghgnaaDoor

namespace Go.Proofs.YtclainfdeghgnaaDoor
open Go.RowKit Go.Proofs.YtclainfdeghgnaaDoor.Nm Go.Proofs.YtclainfdeghgnaaDoor.Lm

theorem wrap_nat {z : Int} {t : Nat} (h : z = t) (ht : t < B) : IntKind.u32.wrap z = (t : Int) := by rw [h, wrap32, Nat.mod_eq_of_lt ht]
theorem u64_in {z : Int} (h0 : 0 ≤ z) (h1 : z < 18446744073709551616) : IntKind.u64.wrap z = z := by
  unfold IntKind.wrap; simp [IntKind.signed, IntKind.bits]; omega
theorem own_lr0 {w : World} {B0 k N : Nat} {v : Value} (h : w.ownsRow B0 53 1 v k (lrow N k)) : ∃ A cap, v = .slice A k cap ∧ LrB B0 w A k N ∧ k ≤ cap := by
  rcases Nat.eq_zero_or_pos k with h0 | h0
  · subst h0
    rcases h.2 with ⟨hv, _⟩ | ⟨g, cap, _, hv, _⟩
    · exact ⟨none, 0, hv, fun h => absurd h (by omega), by omega⟩
    · exact ⟨_, cap, hv, fun h => absurd h (by omega), by omega⟩
  · obtain ⟨g, cap, hv, hl, hc⟩ := own_lr h h0
    exact ⟨_, cap, hv, hl, hc⟩
set_option maxHeartbeats 2000000 in
set_option maxRecDepth 100000 in
theorem less_any (A A' : Option Addr) (n n' c c' a b : Nat) (w : World) (ha : Lr w A n a) (hb : Lr w A' n' b) (la : a < B ^ n) (lb : b < B ^ n') (hn : n ≤ 900) (hab : b ≤ a) :
    Calls Tryd.prog 50 #[.slice A n c, .slice A' n' c'] w fun e w' => ∃ A2 c2, e = .returned (.slice A2 (nl (a - b)) c2) ∧ nl (a - b) ≤ c2 ∧ LrB w.heap.size w' A2 (nl (a - b)) (a - b) ∧ Below w.heap.size w w' := by
  have HA := Lib.hid ha
  have HB := Lib.hid hb
  have LA := Lib.hid la
  have LB := Lib.hid lb
  have HAB := Lib.hid hab
  clear ha hb la lb hab
  go_enter Tryd.func50, Tryd.ntmps50
  go_wp2_with fail
  go_loopw [5, 6, 7] (fun v cr i wr => ∃ k : Nat, k ≤ n ∧ i = .int .i64 (k : Int) ∧ cr = .int .u64 ((bwL a b k : Nat) : Int) ∧ wr.ownsRow w.heap.size 53 1 v k (lrow (a - b) k) ∧ Below w.heap.size w wr) (fun _ _ i _ => (n - intOf i).toNat)
  case atStart => exact ⟨0, by omega, rfl, by rw [bwL_zero]; rfl, ⟨rfl, Or.inl ⟨rfl, rfl⟩⟩, Below.refl _ _⟩
  case round =>
    obtain ⟨k, hk1, rfl, rfl, hown, hbl⟩ := hrel
    obtain ⟨cr, hcr⟩ : ∃ cr, cr = bwL a b k := ⟨_, rfl⟩
    have hc1 : cr ≤ 1 := by rw [hcr]; exact bwL_le a b k
    rw [← hcr]
    by_cases ka : k < n
    · obtain ⟨g, rfl, hg, ca⟩ := HA.out.at_ ka
      have ca' := (hbl.cell (p := ⟨g, k, none⟩) hg).trans ca
      clear ca
      have slo := sub_lo HAB.out k
      have shi := sub_hi HAB.out k
      rw [← hcr] at slo shi
      have hx := lm_32 a k
      obtain ⟨x, ex⟩ : ∃ x, x = lm a k := ⟨_, rfl⟩
      rw [← ex] at ca' hx slo shi
      have HO := Lib.hid hown
      have HBL := Lib.hid hbl
      clear hown hcr ex
      by_cases kb : k < n'
      · obtain ⟨g', rfl, hg', cb⟩ := HB.out.at_ kb
        have cb' := (hbl.cell (p := ⟨g', k, none⟩) hg').trans cb
        clear cb hbl
        have hy := lm_32 b k
        obtain ⟨y, ey⟩ : ∃ y, y = lm b k := ⟨_, rfl⟩
        rw [← ey] at cb' hy slo shi
        clear ey
        by_cases hlt : x < cr + y
        · have HQ := Lib.hid (slo hlt)
          clear slo shi
          have hlt' : (x : Int) < (cr : Int) + (y : Int) := by omega
          clear hlt
          go_upto_region 14 with (fail)
          apply wp_region_lit
          refine wl_k rfl (fun K hK => ?_); go_simp; refine hK _ ?_; clear hK K
          refine wl_k rfl (fun K hK => ?_); go_simp; refine hK _ ?_; clear hK K
          refine wl_k rfl (fun K hK => ?_); go_simp; refine hK _ ?_; clear hK K
          refine wl_k rfl (fun K hK => ?_); go_simp; refine hK _ ?_; clear hK K
          refine wl_k rfl (fun K hK => ?_); go_simp; refine hK _ ?_; clear hK K
          refine wl_push (N := a - b) (k := k) ?_ HO.out HBL.out (by omega) (fun _ => rfl) (fun _ => rfl) ?_
          · show Value.int IntKind.u32 (IntKind.u32.wrap _) = _
            rw [HQ.out.2]
            exact congrArg _ (wrap_nat (by have hB := B_eq; first | omega | (rw [u64_in (by omega) (by omega)]; omega)) (by rw [← HQ.out.2]; exact lm_lt _ _))
          intro v' w2 hown2 hb2
          clear HO HBL
          have HO := Lib.hid hown2
          have HBL := Lib.hid hb2
          clear hown2 hb2
          simp only [put_lit, List.set_cons_zero, List.set_cons_succ]
          go_wp2_with fail
          go_roundw
          case rel =>
            refine ⟨k + 1, by omega, by go_num, ?_, HO.out, HBL.out⟩
            rw [HQ.out.1]
            rfl
          case measure => simp [intOf]; omega
        · have HQ := Lib.hid (shi (by omega))
          clear slo shi
          have hlt' : ¬ (x : Int) < (cr : Int) + (y : Int) := by omega
          clear hlt
          go_upto_region 14 with (fail)
          apply wp_region_lit
          refine wl_k rfl (fun K hK => ?_); go_simp; refine hK _ ?_; clear hK K
          refine wl_k rfl (fun K hK => ?_); go_simp; refine hK _ ?_; clear hK K
          refine wl_k rfl (fun K hK => ?_); go_simp; refine hK _ ?_; clear hK K
          refine wl_k rfl (fun K hK => ?_); go_simp; refine hK _ ?_; clear hK K
          refine wl_k rfl (fun K hK => ?_); go_simp; refine hK _ ?_; clear hK K
          refine wl_push (N := a - b) (k := k) ?_ HO.out HBL.out (by omega) (fun _ => rfl) (fun _ => rfl) ?_
          · show Value.int IntKind.u32 (IntKind.u32.wrap _) = _
            rw [HQ.out.2]
            exact congrArg _ (wrap_nat (by have hB := B_eq; first | omega | (rw [u64_in (by omega) (by omega)]; omega)) (by rw [← HQ.out.2]; exact lm_lt _ _))
          intro v' w2 hown2 hb2
          clear HO HBL
          have HO := Lib.hid hown2
          have HBL := Lib.hid hb2
          clear hown2 hb2
          simp only [put_lit, List.set_cons_zero, List.set_cons_succ]
          go_wp2_with fail
          go_roundw
          case rel =>
            refine ⟨k + 1, by omega, by go_num, ?_, HO.out, HBL.out⟩
            rw [HQ.out.1]
            rfl
          case measure => simp [intOf]; omega
      · have ey := lm_of_le LB.out (Nat.le_of_not_lt kb)
        rw [ey] at slo shi
        clear ey hbl
        by_cases hlt : x < cr
        · have HQ := Lib.hid (slo (by omega))
          clear slo shi
          go_upto_region 14 with (fail)
          apply wp_region_lit
          refine wl_k rfl (fun K hK => ?_); go_simp; refine hK _ ?_; clear hK K
          refine wl_k rfl (fun K hK => ?_); go_simp; refine hK _ ?_; clear hK K
          refine wl_k rfl (fun K hK => ?_); go_simp; refine hK _ ?_; clear hK K
          refine wl_k rfl (fun K hK => ?_); go_simp; refine hK _ ?_; clear hK K
          refine wl_k rfl (fun K hK => ?_); go_simp; refine hK _ ?_; clear hK K
          refine wl_push (N := a - b) (k := k) ?_ HO.out HBL.out (by omega) (fun _ => rfl) (fun _ => rfl) ?_
          · show Value.int IntKind.u32 (IntKind.u32.wrap _) = _
            rw [HQ.out.2]
            exact congrArg _ (wrap_nat (by have hB := B_eq; first | omega | (rw [u64_in (by omega) (by omega)]; omega)) (by rw [← HQ.out.2]; exact lm_lt _ _))
          intro v' w2 hown2 hb2
          clear HO HBL
          have HO := Lib.hid hown2
          have HBL := Lib.hid hb2
          clear hown2 hb2
          simp only [put_lit, List.set_cons_zero, List.set_cons_succ]
          go_wp2_with fail
          go_roundw
          case rel =>
            refine ⟨k + 1, by omega, by go_num, ?_, HO.out, HBL.out⟩
            rw [HQ.out.1]
            rfl
          case measure => simp [intOf]; omega
        · have HQ := Lib.hid (shi (by omega))
          clear slo shi
          go_upto_region 14 with (fail)
          apply wp_region_lit
          refine wl_k rfl (fun K hK => ?_); go_simp; refine hK _ ?_; clear hK K
          refine wl_k rfl (fun K hK => ?_); go_simp; refine hK _ ?_; clear hK K
          refine wl_k rfl (fun K hK => ?_); go_simp; refine hK _ ?_; clear hK K
          refine wl_k rfl (fun K hK => ?_); go_simp; refine hK _ ?_; clear hK K
          refine wl_k rfl (fun K hK => ?_); go_simp; refine hK _ ?_; clear hK K
          refine wl_push (N := a - b) (k := k) ?_ HO.out HBL.out (by omega) (fun _ => rfl) (fun _ => rfl) ?_
          · show Value.int IntKind.u32 (IntKind.u32.wrap _) = _
            rw [HQ.out.2]
            exact congrArg _ (wrap_nat (by have hB := B_eq; first | omega | (rw [u64_in (by omega) (by omega)]; omega)) (by rw [← HQ.out.2]; exact lm_lt _ _))
          intro v' w2 hown2 hb2
          clear HO HBL
          have HO := Lib.hid hown2
          have HBL := Lib.hid hb2
          clear hown2 hb2
          simp only [put_lit, List.set_cons_zero, List.set_cons_succ]
          go_wp2_with fail
          go_roundw
          case rel =>
            refine ⟨k + 1, by omega, by go_num, ?_, HO.out, HBL.out⟩
            rw [HQ.out.1]
            rfl
          case measure => simp [intOf]; omega
    · obtain rfl : k = n := by omega
      obtain ⟨A2, c2, rfl, hl2, hc2⟩ := own_lr0 hown
      have HL := Lib.hid hl2
      have HBL := Lib.hid hbl
      have hlt : a - b < B ^ k := Nat.lt_of_le_of_lt (Nat.sub_le _ _) LA.out
      have HLT := Lib.hid hlt
      clear hl2 hown hbl hlt hcr
      go_wp2_with (go_at_call 26; refine (trim_any _ k c2 (a - b) _ HL.out.lr HLT.out hc2 (by omega)).mono ?_)
      rintro e w3 ⟨rfl, rfl⟩
      go_wp2_with fail
      go_ret
      have hle := nl_le _ _ HLT.out
      exact ⟨_, _, rfl, by omega, HL.out.le hle, HBL.out⟩

theorem cmpN_lt {a b : Nat} (h : a < b) : cmpN a b = -1 := by unfold cmpN; rw [if_pos h]
theorem cmpN_gt {a b : Nat} (h : b < a) : cmpN a b = 1 := by unfold cmpN; rw [if_neg (by omega), if_pos h]
theorem cmpN_eq (a : Nat) : cmpN a a = 0 := by unfold cmpN; rw [if_neg (by omega), if_neg (by omega)]
theorem div_top {a n : Nat} (h : a < B ^ n) : a / B ^ n = 0 := Nat.div_eq_of_lt h
set_option maxHeartbeats 2000000 in
set_option maxRecDepth 100000 in
theorem compare_ne (A A' : Option Addr) (c c' a b : Nat) (w : World) (hne : ¬ nl a = nl b) (R : Int) (HR : Hid (cmpN a b = R)) :
    Calls Tryd.prog 49 #[.slice A (nl a) c, .slice A' (nl b) c'] w fun e w' => e = .returned (.int .i64 R) ∧ Below w.heap.size w w' := by
  obtain ⟨n, hn⟩ : ∃ n, n = nl a := ⟨_, rfl⟩
  obtain ⟨n', hn'⟩ : ∃ n', n' = nl b := ⟨_, rfl⟩
  rw [← hn] at hne ⊢
  rw [← hn'] at hne ⊢
  by_cases hlt : n < n'
  · have e := cmpN_lt (lt_of_nl (a := a) (b := b) (by omega))
    rw [HR.out] at e
    subst e
    clear hn hn'
    go_enter Tryd.func49, Tryd.ntmps49
    go_wp2_with fail
    go_ret
    exact ⟨rfl, Below.refl _ _⟩
  · have e := cmpN_gt (lt_of_nl (a := b) (b := a) (by omega))
    rw [HR.out] at e
    subst e
    clear hn hn'
    go_enter Tryd.func49, Tryd.ntmps49
    go_wp2_with fail
    go_ret
    exact ⟨rfl, Below.refl _ _⟩
set_option maxHeartbeats 2000000 in
set_option maxRecDepth 100000 in
theorem compare_same (A A' : Option Addr) (n c c' a b : Nat) (w : World) (ha : Lr w A n a) (hb : Lr w A' n b) (la : a < B ^ n) (lb : b < B ^ n) (hn : n ≤ 900) (R : Int) (HR : Hid (cmpN a b = R)) :
    Calls Tryd.prog 49 #[.slice A n c, .slice A' n c'] w fun e w' => e = .returned (.int .i64 R) ∧ Below w.heap.size w w' := by
  have HA := Lib.hid ha
  have HB := Lib.hid hb
  have HT := Lib.hid ((div_top la).trans (div_top lb).symm)
  clear ha hb la lb
  go_enter Tryd.func49, Tryd.ntmps49
  go_wp2_with fail
  go_loopw [5] (fun i wr => ∃ k : Nat, k ≤ n ∧ i = .int .i64 ((k : Int) - 1) ∧ Hid (a / B ^ k = b / B ^ k) ∧ Below w.heap.size w wr) (fun i _ => (intOf i + 1).toNat)
  case atStart => exact ⟨n, by omega, rfl, HT, Below.refl _ _⟩
  case round =>
    obtain ⟨k, hk1, rfl, HE, hbl⟩ := hrel
    rcases k with _ | j
    · have e : a = b := by have := HE.out; simpa using this
      subst e
      have e := cmpN_eq a
      rw [HR.out] at e
      subst e
      go_wp2_with fail
      go_ret
      exact ⟨rfl, hbl⟩
    · obtain ⟨g, rfl, hg, ca⟩ := HA.out.at_ (k := j) (by omega)
      obtain ⟨g', rfl, hg', cb⟩ := HB.out.at_ (k := j) (by omega)
      have ca' := (hbl.cell (p := ⟨g, j, none⟩) hg).trans ca
      have cb' := (hbl.cell (p := ⟨g', j, none⟩) hg').trans cb
      rw [show ((j + 1 : Nat) : Int) - 1 = (j : Int) by omega]
      have jl : j < n := by omega
      have h1 := lt_of_lm HE.out
      have h2 := lt_of_lm HE.out.symm
      have h3 := high_eq HE.out
      obtain ⟨x, ex⟩ : ∃ x, x = lm a j := ⟨_, rfl⟩
      obtain ⟨y, ey⟩ : ∃ y, y = lm b j := ⟨_, rfl⟩
      rw [← ex] at ca' h1 h2 h3
      rw [← ey] at cb' h1 h2 h3
      clear ca cb ex ey HT HE
      by_cases hlt : x < y
      · have e := cmpN_lt (h1 hlt)
        rw [HR.out] at e
        subst e
        clear h1 h2 h3
        have hlt' : (x : Int) < (y : Int) := by omega
        go_wp2_with fail
        go_quiet (fail)
        go_wp2_with fail
        go_ret
        exact ⟨rfl, hbl.trans ⟨rfl, rfl, rfl, Nat.le_refl _, fun _ _ => rfl⟩⟩
      · by_cases hgt : y < x
        · have e := cmpN_gt (h2 hgt)
          rw [HR.out] at e
          subst e
          clear h1 h2 h3
          have hlt' : ¬ (x : Int) < (y : Int) := by omega
          have hgt' : (y : Int) < (x : Int) := by omega
          go_wp2_with fail
          go_quiet (fail)
          go_wp2_with fail
          go_quiet (fail)
          go_wp2_with fail
          go_ret
          exact ⟨rfl, hbl.trans ⟨rfl, rfl, rfl, Nat.le_refl _, fun _ _ => rfl⟩⟩
        · obtain rfl : x = y := by omega
          have HE := Lib.hid (h3 rfl)
          clear h1 h2 h3 hlt hgt
          have hlt' : ¬ (x : Int) < (x : Int) := by omega
          go_wp2_with fail
          go_quiet (fail)
          go_wp2_with fail
          go_quiet (fail)
          go_wp2_with fail
          go_roundw
          case rel => exact ⟨j, by omega, rfl, HE, hbl.trans ⟨rfl, rfl, rfl, Nat.le_refl _, fun _ _ => rfl⟩⟩
          case measure => simp [intOf]
theorem compareN_any (A A' : Option Addr) (c c' a b : Nat) (w : World) (ha : Lr w A (nl a) a) (hb : Lr w A' (nl b) b) (hna : nl a ≤ 900) :
    Calls Tryd.prog 49 #[.slice A (nl a) c, .slice A' (nl b) c'] w fun e w' => e = .returned (.int .i64 (cmpN a b)) ∧ Below w.heap.size w w' := by
  by_cases h : nl a = nl b
  · have lb := nl_spec b
    rw [← h] at hb lb ⊢
    exact compare_same A A' (nl a) c c' a b w ha hb (nl_spec a) lb hna _ (Lib.hid rfl)
  · exact compare_ne A A' c c' a b w h _ (Lib.hid rfl)
end Go.Proofs.YtclainfdeghgnaaDoor

namespace Go.Proofs.YtclainfdeghgnaaDoor
open Go.RowKit Go.Proofs.YtclainfdeghgnaaDoor.Nm Go.Proofs.YtclainfdeghgnaaDoor.Lm

def lcells (N m : Nat) : Array Value := (lrow N m).toArray
theorem lcells_size (N m : Nat) : (lcells N m).size = m := by simp [lcells, lrow]
theorem lcells_get {N m j : Nat} (h : j < m) : (lcells N m)[j]? = some (.int .u32 (lm N j)) := by simp [lcells, lrow, h]
theorem lcells_set {N m p d : Nat} (hp : p < m) (hd : d < B) : (lcells N m).setIfInBounds p (.int .u32 d) = lcells (setL N p d) m := by
  apply Array.ext_getElem?
  intro j
  by_cases hj : j < m
  · rw [lcells_get hj, Array.getElem?_setIfInBounds, lm_setL N p hd]
    by_cases hk : p = j
    · subst hk; simp [lcells_size, hp]
    · rw [if_neg hk, lcells_get hj, if_neg (Ne.symm hk)]
  · rw [Array.getElem?_eq_none (by simp [lcells_size]; omega), Array.getElem?_eq_none (by simp [lcells_size]; omega)]
theorem lcells_zero (m : Nat) : lcells 0 m = Array.replicate m (.int .u32 0) := by
  apply Array.ext_getElem?
  intro j
  by_cases hj : j < m
  · rw [lcells_get hj, lm_zero]; simp [hj]
  · rw [Array.getElem?_eq_none (by simp [lcells_size]; omega), Array.getElem?_eq_none (by simp; omega)]
theorem lcells_lr {w : World} {B0 g m N : Nat} {t : TypeId} (h : w.heap[g]? = some (.cells (lcells N m) t (0, 0))) (hB : B0 ≤ g) : LrB B0 w (some ⟨g, 0, none⟩) m N := fun _ =>
  ⟨g, rfl, hB, heap_lt h, fun j hj => by rw [cell_of_row _ _ _ _ _ _ h]; exact lcells_get hj⟩
theorem made_lcells (m : Nat) : madeCells (Value.int IntKind.u32 0).cells (m * 1) = lcells 0 m := by
  apply Array.ext_getElem?
  intro j
  rw [lcells_zero]
  by_cases hj : j < m
  · simp [madeCells, Value.cells, hj, Nat.mod_one]
  · simp [madeCells, Value.cells, hj]
theorem ex_mk82 {ev : Operand → Value} {o : Oper} {w : World} (x : Operand) (ho : o.op = .makeSlice 37 x x) {z : Int} (m : Nat) (hx : ev x = .int .i64 z) (hz : z = (m : Int)) (hm : m ≤ 10000) :
    (execOp ev o).run Tryd.prog w = .ok (.value (.slice (some ⟨w.heap.size, 0, none⟩) m m)) (w.alloc (.cells (lcells 0 m) 53)) := by
  obtain ⟨i0, hi, hz0, hz1, hz2⟩ := info_parts info121
  have h := run_make (P := Tryd.prog) w 37 53 i0 _ u82 hi hz0 .i64 .i64 m m (by omega) (Int.le_refl _) (by rw [hz2]; omega) (by omega)
  rw [Int.toNat_natCast, hz1, made_lcells] at h
  unfold execOp
  simp [ho, hx, hz, h, Result.andThen]
end Go.Proofs.YtclainfdeghgnaaDoor

namespace Go.Proofs.YtclainfdeghgnaaDoor
open Go.RowKit Go.Proofs.YtclainfdeghgnaaDoor.Nm Go.Proofs.YtclainfdeghgnaaDoor.Lm

theorem bt_high {a n i : Nat} (h : a < B ^ n) (hi : n ≤ i / 32) : bt a i = 0 := by
  unfold bt
  rw [Nat.div_eq_of_lt]
  refine Nat.lt_of_lt_of_le h ?_
  rw [B_two, ← Nat.pow_mul]
  exact Nat.pow_le_pow_right (by decide) (by omega)
theorem and1 (x : Nat) (h : x < 4294967296) : bits .and .u32 (x : Int) 1 = ((x % 2 : Nat) : Int) := by
  have := (bits_nat .u32 32 (by decide) (fun n h0 h1 => IntWalk.u32_in n ⟨h0, by omega⟩) x 1 (by omega) (by decide)).1
  rw [Nat.and_one_is_mod] at this
  exact this
theorem or32 (x y : Nat) (h : x < B) (h2 : y < B) : bits .or .u32 (x : Int) (y : Int) = ((x ||| y : Nat) : Int) :=
  (bits_nat .u32 32 (by decide) (fun n h0 h1 => IntWalk.u32_in n ⟨h0, by omega⟩) x y h h2).2
set_option maxHeartbeats 400000 in
set_option maxRecDepth 100000 in
theorem bit_any (A : Option Addr) (n c a i : Nat) (w : World) (ha : Lr w A n a) (la : a < B ^ n) (hn : n ≤ 900) (hi : i ≤ 100000) :
    Calls Tryd.prog 48 #[.slice A n c, .int .i64 (i : Int)] w fun e w' => e = .returned (.int .u32 ((bt a i : Nat) : Int)) ∧ w = w' := by
  have HA := Lib.hid ha
  have LA := Lib.hid la
  clear ha la
  obtain ⟨q, hq⟩ : ∃ q, q = i / 32 := ⟨_, rfl⟩
  obtain ⟨r, hr⟩ : ∃ r, r = i % 32 := ⟨_, rfl⟩
  have hr32 : r < 32 := by omega
  have e1 : (i : Int) / 32 = (q : Int) := by omega
  have e2 : (i : Int) % 32 = (r : Int) := by omega
  have e3 : (i : Int).tdiv 32 = (q : Int) := by rw [Int.tdiv_eq_ediv_of_nonneg (by omega)]; omega
  have e4 : (i : Int).tmod 32 = (r : Int) := by rw [Int.tmod_eq_emod_of_nonneg (by omega)]; omega
  by_cases hk : q < n
  · obtain ⟨g, rfl, hg, ca⟩ := HA.out.at_ hk
    have hb := bt_lm a i
    rw [← hq, ← hr] at hb
    have HB := Lib.hid hb
    clear hb hq hr
    have hx := lm_32 a q
    go_enter Tryd.func48, Tryd.ntmps48
    go_wp2_with fail
    go_ret
    refine ⟨?_, rfl⟩
    rw [show ((lm a q : Nat) : Int) / 2 ^ r = ((lm a q / 2 ^ r : Nat) : Int) by simp, and1 _ (Nat.lt_of_le_of_lt (Nat.div_le_self _ _) hx), HB.out]
    rfl
  · have hb := bt_high LA.out (show n ≤ i / 32 by omega)
    rw [hb]
    clear hq hr
    go_enter Tryd.func48, Tryd.ntmps48
    go_wp2_with fail
    go_ret
    exact ⟨rfl, rfl⟩
theorem lm_one : lm 1 0 = 1 := by decide
theorem nl_dbl {r b : Nat} (h : r < b) : nl (r + r) ≤ nl b + 1 ∧ nl (r + r + 1) ≤ nl b + 1 := by
  have h1 := nl_spec b
  have h2 : B ^ nl b * 2 ≤ B ^ (nl b + 1) := by rw [Nat.pow_succ]; exact Nat.mul_le_mul_left _ (by decide)
  exact ⟨nl_le _ _ (by omega), nl_le _ _ (by omega)⟩
theorem rn_lt {a b i : Nat} (hb : 0 < b) : rn a b i < b := Nat.mod_lt _ hb
theorem cmpN_ge {a b : Nat} : (0 ≤ cmpN a b) ↔ b ≤ a := by
  unfold cmpN; split
  · omega
  · split <;> omega
theorem pow2_mod {r : Nat} (h : r < 32) : ((2 : Int) ^ r) % 4294967296 = ((2 ^ r : Nat) : Int) := by
  have h2 : 2 ^ r < 2 ^ 32 := Nat.pow_lt_pow_right (by decide) h
  have e : ((2 : Int) ^ r) = ((2 ^ r : Nat) : Int) := by simp
  rw [e]
  generalize 2 ^ r = x at *
  omega
set_option maxHeartbeats 2000000 in
set_option maxRecDepth 100000 in
theorem parted_any (A A' : Option Addr) (n c c' a b : Nat) (w : World) (ha : Lr w A n a) (hb : Lr w A' (nl b) b) (la : a < B ^ n) (hn : n ≤ 400) (hn' : nl b ≤ 400) (hb0 : 0 < b) :
    Calls Tryd.prog 25 #[.slice A n c, .slice A' (nl b) c'] w fun e w' => ∃ A2 c2 A3 c3, e = .returned (.tuple #[.slice A2 (nl (a / b)) c2, .slice A3 (nl (a % b)) c3]) ∧ nl (a / b) ≤ c2 ∧ nl (a % b) ≤ c3 ∧
      LrB w.heap.size w' A2 (nl (a / b)) (a / b) ∧ LrB w.heap.size w' A3 (nl (a % b)) (a % b) ∧ Below w.heap.size w w' := by
  have HA := Lib.hid ha
  have HB := Lib.hid hb
  have LA := Lib.hid la
  have HB0 := Lib.hid hb0
  clear ha hb la hb0
  go_enter Tryd.func25, Tryd.ntmps25
  go_upto_region 1 with (fail)
  apply wp_region_lit
  refine wl_k rfl (fun K hK => ?_); go_simp; refine hK _ ?_; clear hK K
  refine wl_k rfl (fun K hK => ?_); go_simp; refine hK _ ?_; clear hK K
  refine wl_w rfl (ex_mk82 _ rfl n rfl rfl (by omega)) ?_
  simp only [put_lit, List.set_cons_zero, List.set_cons_succ]
  refine wl_world (fun W => W.heap[w.heap.size]? = some (.cells (lcells 0 n) 53 (0, 0)) ∧ Below w.heap.size w W) ⟨ha_new rfl, (Below.refl _ _).alloc (Nat.le_refl _) _⟩ ?_
  obtain ⟨p, hp⟩ : ∃ p, p = w.heap.size := ⟨_, rfl⟩
  have hpl : w.heap.size ≤ p := by omega
  rw [← hp]
  rw [hp]
  rintro W ⟨h0, hb⟩
  rw [← hp] at h0 ⊢
  clear hp
  go_wp2_with fail
  go_loopw [7, 8] (fun r7 i wr => ∃ (k : Nat) (A2 : Option Addr) (c2 : Nat), k ≤ 32 * n ∧ i = .int .i64 ((k : Int) - 1) ∧ r7 = .slice A2 (nl (rn a b k)) c2 ∧ nl (rn a b k) ≤ c2 ∧ Hid (LrB (p + 1) wr A2 (nl (rn a b k)) (rn a b k)) ∧ wr.heap[p]? = some (.cells (lcells (qn a b k) n) 53 (0, 0)) ∧ Below w.heap.size w wr) (fun _ i _ => (intOf i + 1).toNat)
  case atStart =>
    obtain ⟨e1, e2⟩ := q_start (b := b) LA.out
    refine ⟨32 * n, none, 0, by omega, ?_, by rw [e2, nl_zero], by rw [e2, nl_zero]; omega, Lib.hid fun h => ?_, by rw [e1]; exact h0, hb⟩
    · go_num
    · rw [e2, nl_zero] at h; omega
  case round =>
    clear h0 hb
    obtain ⟨k, A2, c2, hk, rfl, rfl, hc2, HL, h0, hb⟩ := hrel
    rcases k with _ | j
    · obtain ⟨e1, e2⟩ := q_end a b
      rw [e2] at hc2 HL ⊢
      rw [e1] at h0
      have HQ := Lib.hid (lcells_lr h0 hpl)
      have HLT := Lib.hid (Nat.lt_of_le_of_lt (Nat.div_le_self a b) LA.out)
      have HBL := Lib.hid hb
      clear e1 e2 h0 hb
      go_wp2_with (go_at_call 26; refine (trim_any _ n _ (a / b) _ HQ.out.lr HLT.out (Nat.le_refl _) (by omega)).mono ?_)
      rintro e w3 ⟨rfl, rfl⟩
      go_wp2_with fail
      have hle := nl_le _ _ HLT.out
      refine bodyPost_ret (results_tmp2 rfl _ _ _) rfl ⟨_, _, _, _, rfl, by omega, hc2, HQ.out.le hle, HL.out.low (by omega), HBL.out⟩
    · rw [show ((j + 1 : Nat) : Int) - 1 = (j : Int) by omega]
      have hbt := bt_le a j
      have HPB := Lib.hid h0
      have HBL := Lib.hid (And.intro hb h0)
      clear h0 hb
      obtain ⟨R, hR⟩ : ∃ R, R = rn a b (j + 1) := ⟨_, rfl⟩
      have nR : nl R ≤ 400 := by rw [hR]; exact Nat.le_trans (nl_mono (Nat.le_of_lt (rn_lt HB0.out))) hn'
      rw [← hR] at HL hc2 ⊢
      have HR := Lib.hid hR
      clear hR hc2
      go_wp2_with (go_at_call 47; refine (plus_any _ _ (nl R) (nl R) _ _ R R _ HL.out.lr HL.out.lr (nl_spec _) (nl_spec _) (by omega) (by omega)).mono ?_)
      rintro e w2 ⟨A3, c3, rfl, hc3, hl3, hb1⟩
      replace HBL := Lib.hid (And.intro (HBL.out.1.trans (hb1.mono HBL.out.1.size)) (below_look hb1 HBL.out.2))
      clear HL hb1
      have HL := Lib.hid (hl3.low (B1 := p + 1) (heap_lt HPB.out))
      clear hl3
      go_upto_region 7 with (fail)
      rcases Nat.lt_or_ge (bt a j) 1 with ht | ht
      · have ht0 : bt a j = 0 := by omega
        have HT := Lib.hid ht0
        clear ht ht0 hbt
        go_wp2_with (go_at_call 48; refine (bit_any _ n _ a j _ (HA.out.below HBL.out.1) LA.out (by omega) (by omega)).mono ?_)
        rintro e w3 ⟨rfl, rfl⟩
        rw [HT.out]
        go_upto_region 9 with (fail)
        have hcase : ∀ X : Nat, X = R + R + bt a j → (b ≤ X → qn a b j = qn a b (j + 1) + 2 ^ j ∧ rn a b j = X - b ∧ setL (qn a b (j + 1)) (j / 32) (lm (qn a b (j + 1)) (j / 32) ||| 2 ^ (j % 32)) = qn a b j) ∧ (X < b → qn a b j = qn a b (j + 1) ∧ rn a b j = X) := fun X hX => by
          have e := HR.out
          have e2 : X = 2 * rn a b (j + 1) + bt a j := by rw [hX, e]; omega
          refine ⟨fun h => ?_, fun h => ?_⟩
          · rw [e2] at h ⊢
            obtain ⟨h1, h2⟩ := q_yes h HB0.out
            exact ⟨h1, h2, set_bit h HB0.out⟩
          · rw [e2] at h ⊢
            exact q_no h
        obtain ⟨X, hX⟩ : ∃ X, X = R + R := ⟨_, rfl⟩
        obtain ⟨hyes, hno⟩ := hcase X (by have := HT.out; omega)
        rw [← hX] at HL hc3 ⊢
        have nX : nl X ≤ 801 := by rw [hX]; have := nl_dbl (b := b) (r := R) (by rw [HR.out]; exact rn_lt HB0.out); omega
        clear hX hcase
        by_cases hge : b ≤ X
        · have hc0 : 0 ≤ cmpN X b := cmpN_ge.2 hge
          obtain ⟨cc, hcc⟩ : ∃ cc, cc = cmpN X b := ⟨_, rfl⟩
          rw [← hcc] at hc0
          have HCC := Lib.hid hcc
          have HY := Lib.hid (hyes hge)
          have HGE := Lib.hid hge
          clear hge hcc hyes hno
          go_wp2_with (go_at_call 49; refine (compareN_any _ _ _ _ X b _ HL.out.lr (HB.out.below HBL.out.1) (by omega)).mono ?_)
          rintro e w5 ⟨rfl, hb1⟩
          rw [← HCC.out]
          replace HL := Lib.hid (HL.out.below hb1)
          replace HBL := Lib.hid (And.intro (HBL.out.1.trans (hb1.mono HBL.out.1.size)) (below_look hb1 HBL.out.2))
          have ltp := heap_lt HBL.out.2
          clear hb1
          go_wp2_with (go_at_call 50; refine (less_any _ _ (nl X) (nl b) _ _ X b _ HL.out.lr (HB.out.below HBL.out.1) (nl_spec _) (nl_spec _) (by omega) HGE.out).mono ?_)
          rintro e w6 ⟨A6, c6, rfl, hc6, hl6, hb1⟩
          have HPB := Lib.hid (below_look hb1 HBL.out.2)
          replace HBL := Lib.hid (HBL.out.1.trans (hb1.mono HBL.out.1.size))
          clear HL hb1
          have HL := Lib.hid (hl6.low (B1 := p + 1) ltp)
          clear hl6 ltp
          obtain ⟨q, hq⟩ : ∃ q, q = j / 32 := ⟨_, rfl⟩
          obtain ⟨r, hr⟩ : ∃ r, r = j % 32 := ⟨_, rfl⟩
          have hr32 : r < 32 := by omega
          have hqn : q < n := by omega
          have e1 : (j : Int) / 32 = (q : Int) := by omega
          have e2 : (j : Int) % 32 = (r : Int) := by omega
          have e3 : (j : Int).tdiv 32 = (q : Int) := by rw [Int.tdiv_eq_ediv_of_nonneg (by omega)]; omega
          have e4 : (j : Int).tmod 32 = (r : Int) := by rw [Int.tmod_eq_emod_of_nonneg (by omega)]; omega
          have cn : w6.cell? ⟨p, q, none⟩ = some (.int .u32 (lm (qn a b (j + 1)) q)) := by rw [cell_of_row _ _ _ _ _ _ HPB.out]; exact lcells_get hqn
          have fn : w6.frozen? ⟨p, q, none⟩ = false := frozen_of_row _ _ _ _ _ HPB.out
          have HQ := Lib.hid (And.intro hq hr)
          clear hq hr
          go_upto_region 11 with (fail)
          go_wp2_with fail
          go_roundw
          case rel =>
            obtain ⟨y1, y2, y3⟩ := HY.out
            obtain ⟨hq, hr⟩ := HQ.out
            have hlt := or_lt a b j
            rw [← hq, ← hr] at y3 hlt
            refine ⟨j, A6, c6, by omega, rfl, by rw [y2], by rw [y2]; exact hc6, Lib.hid (by rw [y2]; exact HL.out.setCell (by simp) _), (hs_new HPB.out).trans ?_, HBL.out.setCell hpl _⟩
            have hp2 : 2 ^ r < B := by rw [B_two]; exact Nat.pow_lt_pow_right (by decide) hr32
            rw [pow2_mod hr32, or32 _ _ (lm_lt _ _) hp2, lcells_set hqn hlt, y3]
          case measure => simp [intOf]
        · have hlt : X < b := by omega
          have hc0 : cmpN X b < 0 := by rw [cmpN_lt hlt]; decide
          obtain ⟨cc, hcc⟩ : ∃ cc, cc = cmpN X b := ⟨_, rfl⟩
          rw [← hcc] at hc0
          have HCC := Lib.hid hcc
          have HY := Lib.hid (hno hlt)
          clear hge hlt hcc hyes hno
          have hc1 : ¬ 0 ≤ cc := by omega
          go_wp2_with (go_at_call 49; refine (compareN_any _ _ _ _ X b _ HL.out.lr (HB.out.below HBL.out.1) (by omega)).mono ?_; rintro e w5 ⟨rfl, hb1⟩; rw [← HCC.out]; replace HL := Lib.hid (HL.out.below hb1); replace HBL := Lib.hid (And.intro (HBL.out.1.trans (hb1.mono HBL.out.1.size)) (below_look hb1 HBL.out.2)); clear hb1)
          go_roundw
          case rel =>
            obtain ⟨y1, y2⟩ := HY.out
            exact ⟨j, A3, c3, by omega, rfl, by rw [y2], by rw [y2]; exact hc3, Lib.hid (by rw [y2]; exact HL.out), by rw [y1]; exact HBL.out.2, HBL.out.1⟩
          case measure => simp [intOf]
      · have ht0 : bt a j = 1 := by omega
        have HT := Lib.hid ht0
        clear ht ht0 hbt
        go_wp2_with (go_at_call 48; refine (bit_any _ n _ a j _ (HA.out.below HBL.out.1) LA.out (by omega) (by omega)).mono ?_)
        rintro e w3 ⟨rfl, rfl⟩
        rw [HT.out]
        go_upto_region 8 with (fail)
        apply wp_region_lit
        refine wl_k rfl (fun K hK => ?_); go_simp; refine hK _ ?_; clear hK K
        refine wl_w rfl (ex_bs82 _ rfl rfl) ?_
        simp only [put_lit, List.set_cons_zero, List.set_cons_succ]
        refine wl_world (fun W => LrB (p + 1) W A3 (nl (R + R)) (R + R) ∧ Lr W (some ⟨w2.heap.size, 0, none⟩) 1 1 ∧ (Below w.heap.size w W ∧ W.heap[p]? = some (.cells (lcells (qn a b (j + 1)) n) 53 (0, 0)))) ⟨HL.out.below ((Below.refl _ _).alloc (Nat.le_refl _) _), fun _ => ⟨_, rfl, by simp, fun i hi => ?_⟩, HBL.out.1.alloc HBL.out.1.size _, ha_old HBL.out.2⟩ ?_
        · obtain rfl : i = 0 := by omega
          rw [cell_of_row _ _ _ _ _ _ (ha_new rfl), lm_one]; rfl
        clear HL HBL
        rintro w3 ⟨hl3, hl1, hbl⟩
        have HBL := Lib.hid hbl
        have ltp := heap_lt hbl.2
        clear hbl
        refine wl_ck rfl (fun K hK => ?_); go_simp; refine ⟨_, _, ⟨rfl, rfl⟩, hK _ _ ⟨_, plus_any A3 _ (nl (R + R)) 1 c3 1 (R + R) 1 _ hl3.lr hl1 (nl_spec _) (by decide) (by have := nl_dbl (b := b) (r := R) (by rw [HR.out]; exact rn_lt HB0.out); omega) (by omega), ?_⟩⟩; clear hK K; rintro e w4 ⟨A3', c3', rfl, hc3', hl4, hb1⟩; refine ⟨_, rfl, ?_⟩; simp only [put_lit, List.set_cons_zero, List.set_cons_succ]
        have HPB := Lib.hid (below_look hb1 HBL.out.2)
        replace HBL := Lib.hid (And.intro (HBL.out.1.trans (hb1.mono HBL.out.1.size)) (below_look hb1 HBL.out.2))
        clear hb1 hl1 hl3
        have HL := Lib.hid (hl4.low (B1 := p + 1) ltp)
        clear hl4 ltp
        go_upto_region 9 with (fail)
        have hcase : ∀ X : Nat, X = R + R + bt a j → (b ≤ X → qn a b j = qn a b (j + 1) + 2 ^ j ∧ rn a b j = X - b ∧ setL (qn a b (j + 1)) (j / 32) (lm (qn a b (j + 1)) (j / 32) ||| 2 ^ (j % 32)) = qn a b j) ∧ (X < b → qn a b j = qn a b (j + 1) ∧ rn a b j = X) := fun X hX => by
          have e := HR.out
          have e2 : X = 2 * rn a b (j + 1) + bt a j := by rw [hX, e]; omega
          refine ⟨fun h => ?_, fun h => ?_⟩
          · rw [e2] at h ⊢
            obtain ⟨h1, h2⟩ := q_yes h HB0.out
            exact ⟨h1, h2, set_bit h HB0.out⟩
          · rw [e2] at h ⊢
            exact q_no h
        obtain ⟨X, hX⟩ : ∃ X, X = R + R + 1 := ⟨_, rfl⟩
        obtain ⟨hyes, hno⟩ := hcase X (by have := HT.out; omega)
        rw [← hX] at HL hc3' ⊢
        have nX : nl X ≤ 801 := by rw [hX]; have := nl_dbl (b := b) (r := R) (by rw [HR.out]; exact rn_lt HB0.out); omega
        clear hX hcase
        by_cases hge : b ≤ X
        · have hc0 : 0 ≤ cmpN X b := cmpN_ge.2 hge
          obtain ⟨cc, hcc⟩ : ∃ cc, cc = cmpN X b := ⟨_, rfl⟩
          rw [← hcc] at hc0
          have HCC := Lib.hid hcc
          have HY := Lib.hid (hyes hge)
          have HGE := Lib.hid hge
          clear hge hcc hyes hno
          go_wp2_with (go_at_call 49; refine (compareN_any _ _ _ _ X b _ HL.out.lr (HB.out.below HBL.out.1) (by omega)).mono ?_)
          rintro e w5 ⟨rfl, hb1⟩
          rw [← HCC.out]
          replace HL := Lib.hid (HL.out.below hb1)
          replace HBL := Lib.hid (And.intro (HBL.out.1.trans (hb1.mono HBL.out.1.size)) (below_look hb1 HBL.out.2))
          have ltp := heap_lt HBL.out.2
          clear hb1
          go_wp2_with (go_at_call 50; refine (less_any _ _ (nl X) (nl b) _ _ X b _ HL.out.lr (HB.out.below HBL.out.1) (nl_spec _) (nl_spec _) (by omega) HGE.out).mono ?_)
          rintro e w6 ⟨A6, c6, rfl, hc6, hl6, hb1⟩
          have HPB := Lib.hid (below_look hb1 HBL.out.2)
          replace HBL := Lib.hid (HBL.out.1.trans (hb1.mono HBL.out.1.size))
          clear HL hb1
          have HL := Lib.hid (hl6.low (B1 := p + 1) ltp)
          clear hl6 ltp
          obtain ⟨q, hq⟩ : ∃ q, q = j / 32 := ⟨_, rfl⟩
          obtain ⟨r, hr⟩ : ∃ r, r = j % 32 := ⟨_, rfl⟩
          have hr32 : r < 32 := by omega
          have hqn : q < n := by omega
          have e1 : (j : Int) / 32 = (q : Int) := by omega
          have e2 : (j : Int) % 32 = (r : Int) := by omega
          have e3 : (j : Int).tdiv 32 = (q : Int) := by rw [Int.tdiv_eq_ediv_of_nonneg (by omega)]; omega
          have e4 : (j : Int).tmod 32 = (r : Int) := by rw [Int.tmod_eq_emod_of_nonneg (by omega)]; omega
          have cn : w6.cell? ⟨p, q, none⟩ = some (.int .u32 (lm (qn a b (j + 1)) q)) := by rw [cell_of_row _ _ _ _ _ _ HPB.out]; exact lcells_get hqn
          have fn : w6.frozen? ⟨p, q, none⟩ = false := frozen_of_row _ _ _ _ _ HPB.out
          have HQ := Lib.hid (And.intro hq hr)
          clear hq hr
          go_upto_region 11 with (fail)
          go_wp2_with fail
          go_roundw
          case rel =>
            obtain ⟨y1, y2, y3⟩ := HY.out
            obtain ⟨hq, hr⟩ := HQ.out
            have hlt := or_lt a b j
            rw [← hq, ← hr] at y3 hlt
            refine ⟨j, A6, c6, by omega, rfl, by rw [y2], by rw [y2]; exact hc6, Lib.hid (by rw [y2]; exact HL.out.setCell (by simp) _), (hs_new HPB.out).trans ?_, HBL.out.setCell hpl _⟩
            have hp2 : 2 ^ r < B := by rw [B_two]; exact Nat.pow_lt_pow_right (by decide) hr32
            rw [pow2_mod hr32, or32 _ _ (lm_lt _ _) hp2, lcells_set hqn hlt, y3]
          case measure => simp [intOf]
        · have hlt : X < b := by omega
          have hc0 : cmpN X b < 0 := by rw [cmpN_lt hlt]; decide
          obtain ⟨cc, hcc⟩ : ∃ cc, cc = cmpN X b := ⟨_, rfl⟩
          rw [← hcc] at hc0
          have HCC := Lib.hid hcc
          have HY := Lib.hid (hno hlt)
          clear hge hlt hcc hyes hno
          have hc1 : ¬ 0 ≤ cc := by omega
          go_wp2_with (go_at_call 49; refine (compareN_any _ _ _ _ X b _ HL.out.lr (HB.out.below HBL.out.1) (by omega)).mono ?_; rintro e w5 ⟨rfl, hb1⟩; rw [← HCC.out]; replace HL := Lib.hid (HL.out.below hb1); replace HBL := Lib.hid (And.intro (HBL.out.1.trans (hb1.mono HBL.out.1.size)) (below_look hb1 HBL.out.2)); clear hb1)
          go_roundw
          case rel =>
            obtain ⟨y1, y2⟩ := HY.out
            exact ⟨j, A3', c3', by omega, rfl, by rw [y2], by rw [y2]; exact hc3', Lib.hid (by rw [y2]; exact HL.out), by rw [y1]; exact HBL.out.2, HBL.out.1⟩
          case measure => simp [intOf]
end Go.Proofs.YtclainfdeghgnaaDoor
namespace Go.Proofs.YtclainfdeghgnaaDoor
open Go.RowKit Go.Proofs.YtclainfdeghgnaaDoor.Nm Go.Proofs.YtclainfdeghgnaaDoor.Lm

/-- A whole number of the document: its sign, its limbs. -/
def iv (z : Int) (A : Option Addr) (c : Nat) : Array Value := #[.bool (ng z), .slice A (nl z.natAbs) c]
theorem iv_one (z : Int) (A : Option Addr) (c : Nat) : (iv z A c).all (·.oneCell') = true := by simp [iv, Value.oneCell']
theorem ng_zero : ng 0 = false := by rw [ng_def]; rfl
theorem iv_zero : iv 0 none 0 = #[.bool false, .slice none 0 0] := by unfold iv; rw [ng_zero]; simp [nl_zero]
/-- .. which are there. -/
def IvAt (w : World) (z : Int) (A : Option Addr) (c : Nat) : Prop := nl z.natAbs ≤ c ∧ Lr w A (nl z.natAbs) z.natAbs
theorem IvAt.below {w w' : World} {z : Int} {A : Option Addr} {c : Nat} (h : IvAt w z A c) (hb : Below w.heap.size w w') : IvAt w' z A c := ⟨h.1, h.2.below hb⟩
theorem IvAt.zero (w : World) : IvAt w 0 none 0 := ⟨by simp [nl_zero], fun h => by simp [nl_zero] at h⟩
theorem info84 : (Tryd.prog.info? 39).map (·.size) = some 2 := by kernel_rfl
theorem u84 : Tryd.prog.underlying 39 = some (.struct (Tryd.prog.fieldsOf 39)) := by kernel_rfl
theorem rowIv {w : World} {b : Nat} {z : Int} {A : Option Addr} {c : Nat} {t : TypeId} {fr : Nat × Nat} (hb : w.heap[b]? = some (.cells (iv z A c) t fr)) : RowAt w 39 ⟨b, 0, none⟩ (iv z A c) := row_mid hb (D := iv z A c) (n := 2) rfl u84 rfl rfl info84
theorem iv0 {w : World} {b : Nat} {z : Int} {A : Option Addr} {c : Nat} {t : TypeId} {fr : Nat × Nat} (hb : w.heap[b]? = some (.cells (iv z A c) t fr)) : w.cell? ⟨b, 0, none⟩ = some (.bool (ng z)) := by rw [cell_of_row _ _ _ _ _ _ hb]; rfl
theorem iv1 {w : World} {b : Nat} {z : Int} {A : Option Addr} {c : Nat} {t : TypeId} {fr : Nat × Nat} (hb : w.heap[b]? = some (.cells (iv z A c) t fr)) : w.cell? ⟨b, 1, none⟩ = some (.slice A (nl z.natAbs) c) := by rw [cell_of_row _ _ _ _ _ _ hb]; rfl
theorem res_iv {fn : Func} {p : Tmp} (h : fn.results = #[.cell p 39]) (tmps : Array Value) (w : World) (g : Nat) (hp : tmps.getD p undef = .pointer (some ⟨g, 0, none⟩)) {z : Int} {A : Option Addr} {c : Nat}
    (hg : w.heap[g]? = some (.cells (iv z A c) 39 (0, 0))) : (results fn tmps).run Tryd.prog w = .ok (.agg (iv z A c)) w := by
  have hp' : tmps[p]?.getD undef = .pointer (some ⟨g, 0, none⟩) := by simpa using hp
  have l1 : (loadVar 39 ⟨g, 0, none⟩).run Tryd.prog w = .ok (.agg (iv z A c)) w := by have := rowIv hg; unfold RowAt at this; exact this
  unfold results
  simp [h, hp', asAddr, l1]
theorem IvAt.of {B0 : Nat} {w : World} {N : Nat} {A : Option Addr} {c : Nat} (z : Int) (hz : z.natAbs = N) (hc : nl N ≤ c) (h : LrB B0 w A (nl N) N) : IvAt w z A c := by
  subst hz; exact ⟨hc, h.lr⟩
theorem lr_setRow {B0 p : Nat} {w : World} {A : Option Addr} {n N : Nat} {cs : Array Value} (h : LrB B0 w A n N) (hp : p < B0) : LrB B0 (w.setRow p cs) A n N := fun hn => by
  obtain ⟨g, h1, h0, h2, h3⟩ := h hn
  refine ⟨g, h1, h0, by simpa using h2, fun j hj => ?_⟩
  rw [World.cell?_of_block (setRow_other w p g cs (by omega))]; exact h3 j hj
end Go.Proofs.YtclainfdeghgnaaDoor

namespace Go.Proofs.YtclainfdeghgnaaDoor
open Go.RowKit Go.Proofs.YtclainfdeghgnaaDoor.Nm Go.Proofs.YtclainfdeghgnaaDoor.Lm
theorem run_bs82b (w : World) (y z : Int) : (Instr.buildSlice 37 2 #[(0, .int .u32 y), (1, .int .u32 z)]).run Tryd.prog w = .ok (.slice (some ⟨w.heap.size, 0, none⟩) 2 2) (w.alloc (.cells #[.int .u32 y, .int .u32 z] 53)) := by kernel_rfl
theorem ex_bs82b {ev : Operand → Value} {o : Oper} {w : World} (x x' : Operand) (ho : o.op = .buildSlice 37 2 #[(0, x), (1, x')]) {y z : Int} (hx : ev x = .int .u32 y) (hx' : ev x' = .int .u32 z) :
    (execOp ev o).run Tryd.prog w = .ok (.value (.slice (some ⟨w.heap.size, 0, none⟩) 2 2)) (w.alloc (.cells #[.int .u32 y, .int .u32 z] 53)) := by
  unfold execOp
  have := run_bs82b w y z
  simp [ho, hx, hx', this, Result.andThen]
theorem two_limbs {m : Nat} : #[Value.int .u32 ((m % B : Nat) : Int), .int .u32 ((m / B % B : Nat) : Int)] = lcells m 2 := by
  have e0 : lm m 0 = m % B := by simp [lm]
  have e1 : lm m 1 = m / B % B := by unfold lm; rw [Nat.pow_one]
  simp [lcells, lrow, List.range_succ, e0, e1]
theorem lim64 {m : Nat} (h : m ≤ 9223372036854775808) : m < B ^ 2 := by
  have : B ^ 2 = 18446744073709551616 := by decide
  omega
theorem wl_put84 {ops : Array Oper} {rest : List Oper} {ty' : TypeId} {x y : Operand} {pos : String} {after : Array Edge} {a : Act} {w : World} {Q : Exit → Act → World → Prop} {b : Nat} {z z0 : Int} {A A0 : Option Addr} {c c0 : Nat} (hx : a.eval x = .pointer (some ⟨b, 0, none⟩)) (hy : a.eval y = .agg (iv z A c)) (hb : w.heap[b]? = some (.cells (iv z0 A0 c0) 39 (0, 0)))
    (h : wpList Tryd.prog ops Q rest (a.put none undef) (w.setRow b (iv z A c))) : wpList Tryd.prog ops Q (⟨none, .store 39 x y, ty', pos, after, none⟩ :: rest) a w :=
  wpList_store_row rfl 39 x y rfl b (iv z A c) hx hy 39 (iv z0 A0 c0) hb info84 rfl (iv_one _ _ _) h
set_option maxHeartbeats 1000000 in
set_option maxRecDepth 100000 in
theorem Of_any (n : Int) (h1 : -9223372036854775808 ≤ n) (h2 : n ≤ 9223372036854775807) (w : World) :
    Calls Tryd.prog 17 #[.int .i64 n] w fun e w' => ∃ A2 c2, e = .returned (.agg (iv n A2 c2)) ∧ IvAt w' n A2 c2 ∧ Below w.heap.size w w' := by
  obtain ⟨m, hm⟩ : ∃ m, n.natAbs = m := ⟨_, rfl⟩
  have HM := Lib.hid hm
  have hmu : (m : Int) ≤ 9223372036854775808 := by omega
  have hmu' : m ≤ 9223372036854775808 := by omega
  rcases Int.lt_or_le n 0 with hn | hn
  · have e1 := neg_u64 h1 hn
    rw [hm] at e1
    have E1 := Lib.hid e1
    clear hm
    go_enter Tryd.func17, Tryd.ntmps17
    go_upto_region 4 with (fail)
    refine wp_world (fun W => W.heap[w.heap.size]? = some (.cells (iv 0 none 0) 39 (0, 0)) ∧ Below w.heap.size w W) ⟨by rw [iv_zero]; exact ha_new rfl, (Below.refl _ _).alloc (Nat.le_refl _) _⟩ ?_
    rintro W ⟨h0, hb⟩
    apply wp_region_lit
    refine wl_k rfl (fun K hK => ?_); go_simp; refine hK _ ?_; clear hK K
    refine wl_k rfl (fun K hK => ?_); go_simp; refine hK _ ?_; clear hK K
    refine wl_k rfl (fun K hK => ?_); go_simp; refine hK _ ?_; clear hK K
    refine wl_k rfl (fun K hK => ?_); go_simp; refine hK _ ?_; clear hK K
    refine wl_k rfl (fun K hK => ?_); go_simp; refine hK _ ?_; clear hK K
    refine wl_k rfl (fun K hK => ?_); go_simp; refine hK _ ?_; clear hK K
    refine wl_k rfl (fun K hK => ?_); go_simp; refine hK _ ?_; clear hK K
    refine wl_w rfl (ex_bs82b _ _ rfl rfl rfl) ?_
    simp only [put_lit, List.set_cons_zero, List.set_cons_succ]
    try rw [E1.out]
    rw [show (m : Int) / 4294967296 = ((m / B : Nat) : Int) by rw [B_eq]; omega, wrap32, wrap32, two_limbs]
    have hl := lcells_lr (B0 := W.heap.size) (ha_new (w := W) (o := .cells (lcells m 2) 53) rfl) (Nat.le_refl _)
    refine wl_world (fun X => LrB W.heap.size X (some ⟨W.heap.size, 0, none⟩) 2 m ∧ X.heap[w.heap.size]? = some (.cells (iv 0 none 0) 39 (0, 0)) ∧ Below w.heap.size w X) ⟨hl, ha_old h0, hb.alloc hb.size _⟩ ?_
    have ltp := heap_lt h0
    clear hl h0 hb
    rintro X ⟨hl, h0, hb⟩
    refine wl_ck rfl (fun K hK => ?_); go_simp; refine ⟨_, _, ⟨rfl, rfl⟩, hK _ _ ⟨_, trim_any _ 2 2 m _ hl.lr (lim64 hmu') (Nat.le_refl _) (by omega), ?_⟩⟩; clear hK K; rintro e X2 ⟨rfl, rfl⟩; refine ⟨_, rfl, ?_⟩; simp only [put_lit, List.set_cons_zero, List.set_cons_succ]
    refine wl_k rfl (fun K hK => ?_); go_simp; refine hK _ ?_; clear hK K
    refine wl_put84 (z := n) (A := some ⟨W.heap.size, 0, none⟩) (c := 2) rfl ?_ h0 ?_
    · unfold iv
      rw [HM.out, ng_def]
      simp only [hn, decide_true]
      rfl
    have hle := nl_le _ _ (lim64 hmu')
    go_wp2_with fail
    exact bodyPost_ret (res_iv rfl _ _ w.heap.size rfl (hr_new h0)) rfl ⟨_, _, rfl, IvAt.of n HM.out hle (lr_setRow (hl.le hle) ltp), below_setRow hb (by omega) _⟩
  · have e1 := pos_u64 hn h2
    rw [hm] at e1
    have E1 := Lib.hid e1
    have hn' : ¬ n < 0 := by omega
    clear hm
    go_enter Tryd.func17, Tryd.ntmps17
    go_upto_region 4 with (fail)
    refine wp_world (fun W => W.heap[w.heap.size]? = some (.cells (iv 0 none 0) 39 (0, 0)) ∧ Below w.heap.size w W) ⟨by rw [iv_zero]; exact ha_new rfl, (Below.refl _ _).alloc (Nat.le_refl _) _⟩ ?_
    rintro W ⟨h0, hb⟩
    apply wp_region_lit
    refine wl_k rfl (fun K hK => ?_); go_simp; refine hK _ ?_; clear hK K
    refine wl_k rfl (fun K hK => ?_); go_simp; refine hK _ ?_; clear hK K
    refine wl_k rfl (fun K hK => ?_); go_simp; refine hK _ ?_; clear hK K
    refine wl_k rfl (fun K hK => ?_); go_simp; refine hK _ ?_; clear hK K
    refine wl_k rfl (fun K hK => ?_); go_simp; refine hK _ ?_; clear hK K
    refine wl_k rfl (fun K hK => ?_); go_simp; refine hK _ ?_; clear hK K
    refine wl_k rfl (fun K hK => ?_); go_simp; refine hK _ ?_; clear hK K
    refine wl_w rfl (ex_bs82b _ _ rfl rfl rfl) ?_
    simp only [put_lit, List.set_cons_zero, List.set_cons_succ]
    try rw [E1.out]
    rw [show (m : Int) / 4294967296 = ((m / B : Nat) : Int) by rw [B_eq]; omega, wrap32, wrap32, two_limbs]
    have hl := lcells_lr (B0 := W.heap.size) (ha_new (w := W) (o := .cells (lcells m 2) 53) rfl) (Nat.le_refl _)
    refine wl_world (fun X => LrB W.heap.size X (some ⟨W.heap.size, 0, none⟩) 2 m ∧ X.heap[w.heap.size]? = some (.cells (iv 0 none 0) 39 (0, 0)) ∧ Below w.heap.size w X) ⟨hl, ha_old h0, hb.alloc hb.size _⟩ ?_
    have ltp := heap_lt h0
    clear hl h0 hb
    rintro X ⟨hl, h0, hb⟩
    refine wl_ck rfl (fun K hK => ?_); go_simp; refine ⟨_, _, ⟨rfl, rfl⟩, hK _ _ ⟨_, trim_any _ 2 2 m _ hl.lr (lim64 hmu') (Nat.le_refl _) (by omega), ?_⟩⟩; clear hK K; rintro e X2 ⟨rfl, rfl⟩; refine ⟨_, rfl, ?_⟩; simp only [put_lit, List.set_cons_zero, List.set_cons_succ]
    refine wl_k rfl (fun K hK => ?_); go_simp; refine hK _ ?_; clear hK K
    refine wl_put84 (z := n) (A := some ⟨W.heap.size, 0, none⟩) (c := 2) rfl ?_ h0 ?_
    · unfold iv
      rw [HM.out, ng_def]
      simp only [hn', decide_false]
      rfl
    have hle := nl_le _ _ (lim64 hmu')
    go_wp2_with fail
    exact bodyPost_ret (res_iv rfl _ _ w.heap.size rfl (hr_new h0)) rfl ⟨_, _, rfl, IvAt.of n HM.out hle (lr_setRow (hl.le hle) ltp), below_setRow hb (by omega) _⟩
theorem IvAt.put {w : World} {z z0 : Int} {A A0 : Option Addr} {c c0 p : Nat} (h : IvAt w z A c) (hp : w.heap[p]? = some (.cells (iv z0 A0 c0) 39 (0, 0))) (cs : Array Value) : IvAt (w.setRow p cs) z A c := ⟨h.1, fun hn => by
  obtain ⟨g, h1, h2, h3⟩ := h.2 hn
  have hne : g ≠ p := by
    rintro rfl
    have := h3 0 hn
    rw [iv0 hp] at this
    cases this
  refine ⟨g, h1, by simpa using h2, fun j hj => ?_⟩
  rw [World.cell?_of_block (setRow_other w p g cs hne)]
  exact h3 j hj⟩
theorem nl_sub {r b k : Nat} (h : r ≤ b) (hb : nl b ≤ k) : nl r ≤ k := Nat.le_trans (nl_mono h) hb
end Go.Proofs.YtclainfdeghgnaaDoor
namespace Go.Proofs.YtclainfdeghgnaaDoor
open Go.RowKit Go.Proofs.YtclainfdeghgnaaDoor.Nm Go.Proofs.YtclainfdeghgnaaDoor.Lm
def p2 (k : Nat) : Int := ((2 ^ k : Nat) : Int)
end Go.Proofs.YtclainfdeghgnaaDoor

namespace Go.Proofs.YtclainfdeghgnaaDoor
open Go.RowKit Go.Proofs.YtclainfdeghgnaaDoor.Nm Go.Proofs.YtclainfdeghgnaaDoor.Lm
end Go.Proofs.YtclainfdeghgnaaDoor
namespace Go.Proofs.YtclainfdeghgnaaDoor
open Go.RowKit Go.Proofs.YtclainfdeghgnaaDoor.Nm

theorem top_dg {n : Nat} (h : n ≠ 0) : dg n (dlen n - 1) ≠ 0 := by
  induction n using Nat.strongRecOn with
  | ind n ih =>
    by_cases h10 : n < 10
    · rw [dlen_small h10]; simp [dg]; omega
    · rw [dlen_big h10, Nat.add_sub_cancel]
      have hp := dlen_pos (n / 10)
      obtain ⟨t, ht⟩ : ∃ t, dlen (n / 10) = t + 1 := ⟨dlen (n / 10) - 1, by omega⟩
      have := ih (n / 10) (by omega) (by omega)
      rw [ht] at this ⊢
      rw [dg_succ]; simpa using this
end Go.Proofs.YtclainfdeghgnaaDoor
namespace Go.Proofs.YtclainfdeghgnaaDoor
open Go.RowKit Go.Proofs.YtclainfdeghgnaaDoor.Nm Go.Proofs.YtclainfdeghgnaaDoor.Lm
theorem run_bs114 (w : World) (z : Int) : (Instr.buildSlice 54 1 #[(0, .int .u8 z)]).run Tryd.prog w = .ok (.slice (some ⟨w.heap.size, 0, none⟩) 1 1) (w.alloc (.cells #[.int .u8 z] 5)) := by kernel_rfl
theorem ex_bs114 {ev : Operand → Value} {o : Oper} {w : World} (x : Operand) (ho : o.op = .buildSlice 54 1 #[(0, x)]) {z : Int} (hx : ev x = .int .u8 z) :
    (execOp ev o).run Tryd.prog w = .ok (.value (.slice (some ⟨w.heap.size, 0, none⟩) 1 1)) (w.alloc (.cells #[.int .u8 z] 5)) := by
  unfold execOp
  have := run_bs114 w z
  simp [ho, hx, this, Result.andThen]
theorem ex_cv114 {ev : Operand → Value} {o : Oper} {w : World} (x : Operand) (ho : o.op = .convert 54 9 x) {g : Nat} {z : Int} (hx : ev x = .slice (some ⟨g, 0, none⟩) 1 1) (hc : w.cell? ⟨g, 0, none⟩ = some (.int .u8 z)) :
    (execOp ev o).run Tryd.prog w = .ok (.value (.string ⟨#[UInt8.ofNat z.toNat]⟩)) w := by
  have h1 := run_convert_bytes_string (P := Tryd.prog) w 54 9 5 (some ⟨g, 0, none⟩) 1 1 (by kernel_rfl) (by kernel_rfl) (by kernel_rfl)
  have h2 := run_bytesToString (P := Tryd.prog) w ⟨g, 0, none⟩ 1 1 [z] (run_loadCells_list w _ [.int .u8 z] (by
    intro j v h
    rcases j with _ | j
    · simp at h; subst h; exact hc
    · simp at h))
  unfold execOp
  simp [ho, hx, h1, h2, Result.andThen]
  rfl
theorem nl_pos' {n : Nat} (h : n ≠ 0) : ¬ ((nl n : Nat) : Int) = 0 := by
  intro h0
  exact h (nl_eq_zero.1 (by omega))
theorem nl_ten : nl 10 = 1 := by rw [nl_pos (by decide), Nat.div_eq_of_lt (by rw [B_eq]; omega), nl_zero]
theorem parted_ten (A A' : Option Addr) (n c c' a : Nat) (w : World) (ha : Lr w A n a) (hb : Lr w A' 1 10) (la : a < B ^ n) (hn : n ≤ 400) :
    Calls Tryd.prog 25 #[.slice A n c, .slice A' 1 c'] w fun e w' => ∃ A2 c2 A3 c3, e = .returned (.tuple #[.slice A2 (nl (a / 10)) c2, .slice A3 (nl (a % 10)) c3]) ∧ nl (a / 10) ≤ c2 ∧ nl (a % 10) ≤ c3 ∧
      LrB w.heap.size w' A2 (nl (a / 10)) (a / 10) ∧ LrB w.heap.size w' A3 (nl (a % 10)) (a % 10) ∧ Below w.heap.size w w' := by
  have h := parted_any A A' n c c' a 10 w ha (by rw [nl_ten]; exact hb) la hn (by rw [nl_ten]; omega) (by decide)
  rw [nl_ten] at h
  exact h
def slen : Value → Nat
  | .string b => b.size
  | _ => 0
theorem d_done {N k : Nat} (h0 : N ≠ 0) (hk : k ≤ dlen N) (h : N / 10 ^ k = 0) : k = dlen N := by
  have h1 := top_dg h0
  have h2 := dlen_pos N
  refine Nat.le_antisymm hk (Nat.le_of_not_lt fun hc => h1 ?_)
  unfold dg
  have h3 : 10 ^ k ≤ 10 ^ (dlen N - 1) := Nat.pow_le_pow_right (by decide) (by omega)
  have h4 : N < 10 ^ k := by
    rcases Nat.div_eq_zero_iff.1 h with h | h
    · have := Nat.pow_pos (n := k) (show 0 < 10 by decide); omega
    · exact h
  rw [Nat.div_eq_of_lt (by omega)]
theorem d_more {N k : Nat} (hk : k ≤ dlen N) (h : N / 10 ^ k ≠ 0) : k < dlen N := by
  refine Nat.lt_of_le_of_ne hk fun e => h ?_
  subst e
  exact Nat.div_eq_of_lt (lt_dlen N)
theorem d_next (N k : Nat) : N / 10 ^ (k + 1) = N / 10 ^ k / 10 := by rw [Nat.pow_succ, Nat.div_div_eq_div_mul]
theorem d_cat (N k D : Nat) (h : D = N / 10 ^ k % 10) : (⟨#[UInt8.ofNat ((48 + D : Int)).toNat]⟩ : ByteArray) ++ (⟨(dtxt N k).toArray⟩ : ByteArray) = ⟨(dtxt N (k + 1)).toArray⟩ := by
  have e : (48 + (D : Int)).toNat = 48 + D := by omega
  rw [e, h]
  apply ByteArray.ext
  rw [ByteArray.data_append]
  simp [dtxt, dch, dg]
theorem d_meas (N k D : Nat) (h : D = N / 10 ^ k % 10) (hk : k < 64) : 70 - slen (.string ((⟨#[UInt8.ofNat (48 + D)]⟩ : ByteArray) ++ (⟨(dtxt N k).toArray⟩ : ByteArray))) < 70 - slen (.string ⟨(dtxt N k).toArray⟩) := by
  have e := d_cat N k D h
  rw [show (48 + (D : Int)).toNat = 48 + D by omega] at e
  rw [e]
  show 70 - (dtxt N (k + 1)).toArray.size < 70 - (dtxt N k).toArray.size
  simp only [List.size_toArray, dtxt_length]
  omega
theorem txt_zero : txt 0 = [48] := by
  unfold txt sgn
  rw [ng_def, show (0 : Int).natAbs = 0 from rfl, dlen_small (by decide)]
  decide
theorem txt_pos {z : Int} (h : ng z = false) : txt z = dtxt z.natAbs (dlen z.natAbs) := by unfold txt sgn; rw [h]; rfl
theorem txt_neg {z : Int} (h : ng z = true) : txt z = 45 :: dtxt z.natAbs (dlen z.natAbs) := by unfold txt sgn; rw [h]; rfl
theorem lm0 {D : Nat} (h : D < 10) : lm D 0 = D := by unfold lm; rw [Nat.pow_zero, Nat.div_one, Nat.mod_eq_of_lt (by rw [B_eq]; omega)]
set_option maxHeartbeats 1000000 in
set_option maxRecDepth 100000 in
theorem TextI_zero (A : Option Addr) (c : Nat) (w : World) :
    Calls Tryd.prog 16 #[.agg (iv 0 A c)] w fun e w' => e = .returned (.string ⟨(txt 0).toArray⟩) ∧ Below w.heap.size w w' := by
  go_enter Tryd.func16, Tryd.ntmps16
  go_upto_region 1 with (fail)
  refine wp_world (fun W => W.heap[w.heap.size]? = some (.cells (iv 0 A c) 39 (0, 0)) ∧ Below w.heap.size w W) ⟨ha_new rfl, (Below.refl _ _).alloc (Nat.le_refl _) _⟩ ?_
  rintro W ⟨h0, hb⟩
  have i1 := iv1 h0
  rw [show (0 : Int).natAbs = 0 from rfl, nl_zero] at i1
  go_wp2_with fail
  go_ret
  rw [txt_zero]
  exact ⟨rfl, hb⟩
set_option maxHeartbeats 2000000 in
set_option maxRecDepth 100000 in
theorem TextI_pos (z : Int) (A : Option Addr) (c : Nat) (w : World) (hI : IvAt w z A c) (nz : nl z.natAbs ≤ 400) (hz : z.natAbs < 10 ^ 64) (h0 : z.natAbs ≠ 0) :
    Calls Tryd.prog 16 #[.agg (iv z A c)] w fun e w' => e = .returned (.string ⟨(txt z).toArray⟩) ∧ Below w.heap.size w w' := by
  have HI := Lib.hid hI
  have HZ0 := Lib.hid h0
  have nz0 := nl_pos' h0
  have DL : Hid (dlen z.natAbs ≤ 64) := Lib.hid (dlen_le (k := 63) hz)
  clear hI hz h0
  go_enter Tryd.func16, Tryd.ntmps16
  go_upto_region 1 with (fail)
  refine wp_world (fun W => W.heap[w.heap.size]? = some (.cells (iv z A c) 39 (0, 0)) ∧ Below w.heap.size w W) ⟨ha_new rfl, (Below.refl _ _).alloc (Nat.le_refl _) _⟩ ?_
  rintro W ⟨h0, hb⟩
  have i1 := iv1 h0
  have hI := Lib.hid (HI.out.below hb)
  clear HI
  go_wp2_with fail
  rw [show (((nl z.natAbs : Nat) : Int) == 0) = false from by assumption]
  clear i1 nz0
  go_loopw [3, 4] (fun s m wr => ∃ (k : Nat) (A2 : Option Addr) (c2 : Nat), k ≤ dlen z.natAbs ∧ s = .string ⟨(dtxt z.natAbs k).toArray⟩ ∧ m = .slice A2 (nl (z.natAbs / 10 ^ k)) c2 ∧ nl (z.natAbs / 10 ^ k) ≤ c2 ∧ Hid (Lr wr A2 (nl (z.natAbs / 10 ^ k)) (z.natAbs / 10 ^ k)) ∧ wr.heap[w.heap.size]? = some (.cells (iv z A c) 39 (0, 0)) ∧ Below w.heap.size w wr) (fun s _ _ => 70 - slen s)
  case atStart => exact ⟨0, A, c, by omega, rfl, by rw [Nat.pow_zero, Nat.div_one], by rw [Nat.pow_zero, Nat.div_one]; exact hI.out.1, by rw [Nat.pow_zero, Nat.div_one]; exact Lib.hid hI.out.2, h0, hb⟩
  case round =>
    clear h0 hb hI
    obtain ⟨k, A2, c2, hk, rfl, rfl, hc2, HL, h0, hb⟩ := hrel
    obtain ⟨M, hM⟩ : ∃ M, M = z.natAbs / 10 ^ k := ⟨_, rfl⟩
    rw [← hM] at hc2 HL ⊢
    have nM : nl M ≤ 400 := by rw [hM]; exact nl_sub (Nat.div_le_self _ _) nz
    have HM := Lib.hid hM
    clear hM
    by_cases hM0 : M = 0
    · have hkk := d_done HZ0.out hk (by rw [← HM.out]; exact hM0)
      subst hkk
      subst hM0
      rw [nl_zero]
      have i0 := iv0 h0
      cases hs : ng z
      · have HT := Lib.hid (txt_pos hs)
        rw [hs] at i0
        clear hs
        go_wp2_with fail
        go_ret
        rw [HT.out]
        exact ⟨rfl, hb⟩
      · have HT := Lib.hid (txt_neg hs)
        rw [hs] at i0
        have hL : ¬ 9223372036854775807 < 1 + (dtxt z.natAbs (dlen z.natAbs)).length := by rw [dtxt_length]; have := DL.out; omega
        clear hs
        go_wp2_with fail
        go_ret
        rw [HT.out]
        refine ⟨?_, hb⟩
        congr 2
    · have hkk := Lib.hid (d_more hk (by rw [← HM.out]; exact hM0))
      have nM0 := nl_pos' hM0
      clear hM0
      go_upto_region 6 with (fail)
      clear nM0
      apply wp_region_lit
      refine wl_k rfl (fun K hK => ?_); go_simp; refine hK _ ?_; clear hK K
      refine wl_w rfl (ex_bs82 _ rfl rfl) ?_
      simp only [put_lit, List.set_cons_zero, List.set_cons_succ]
      refine wl_world (fun W => Lr W A2 (nl M) M ∧ Lr W (some ⟨wr.heap.size, 0, none⟩) 1 10 ∧ W.heap[w.heap.size]? = some (.cells (iv z A c) 39 (0, 0)) ∧ Below w.heap.size w W) ⟨HL.out.below ((Below.refl _ _).alloc (Nat.le_refl _) _), fun _ => ⟨_, rfl, by simp, fun i hi => ?_⟩, ha_old h0, hb.alloc hb.size _⟩ ?_
      · obtain rfl : i = 0 := by omega
        rw [cell_of_row _ _ _ _ _ _ (ha_new rfl)]; rfl
      clear HL h0 hb
      rintro w3 ⟨hl, hl1, h0, hb⟩
      refine wl_ck rfl (fun K hK => ?_); go_simp; refine ⟨_, _, ⟨rfl, rfl⟩, hK _ _ ⟨_, parted_ten A2 _ (nl M) c2 1 M _ hl hl1 (nl_spec _) nM, ?_⟩⟩; clear hK K; rintro e w4 ⟨A3, c3, A4, c4, rfl, hc3, hc4, hl3, hl4, hb1⟩; refine ⟨_, rfl, ?_⟩; simp only [put_lit, List.set_cons_zero, List.set_cons_succ]
      replace h0 := below_look hb1 h0; replace hb := hb.trans (hb1.mono hb.size); clear hb1
      clear hl hl1
      have HQ := Lib.hid hl3.lr
      have HR := Lib.hid hl4.lr
      clear hl3 hl4
      obtain ⟨D, hD⟩ : ∃ D, D = M % 10 := ⟨_, rfl⟩
      have D10 : D < 10 := by omega
      have HC := Lib.hid (show D = z.natAbs / 10 ^ k % 10 by rw [← HM.out]; exact hD)
      have HN := Lib.hid (show M / 10 = z.natAbs / 10 ^ (k + 1) by rw [d_next, ← HM.out])
      rw [← hD] at HR hc4 ⊢
      rw [HN.out] at HQ hc3 ⊢
      clear hD HM nM HN hc2
      by_cases hD0 : D = 0
      · subst hD0
        rw [nl_zero]
        go_upto_region 10 with (fail)
        apply wp_region_lit
        refine wl_k rfl (fun K hK => ?_); go_simp; refine hK _ ?_; clear hK K
        refine wl_w rfl (ex_bs114 _ rfl rfl) ?_
        simp only [put_lit, List.set_cons_zero, List.set_cons_succ]
        refine wl_val rfl (ex_cv114 _ rfl rfl (by rw [cell_of_row _ _ _ _ _ _ (ha_new rfl)]; rfl)) ?_
        simp only [put_lit, List.set_cons_zero, List.set_cons_succ]
        refine wl_world (fun W => Lr W A3 (nl (z.natAbs / 10 ^ (k + 1))) (z.natAbs / 10 ^ (k + 1)) ∧ W.heap[w.heap.size]? = some (.cells (iv z A c) 39 (0, 0)) ∧ Below w.heap.size w W) ⟨HQ.out.below ((Below.refl _ _).alloc (Nat.le_refl _) _), ha_old h0, hb.alloc hb.size _⟩ ?_
        clear HQ HR h0 hb
        rintro w5 ⟨hQ, h0, hb⟩
        have hL : ¬ 9223372036854775807 < 1 + (dtxt z.natAbs k).length := by rw [dtxt_length]; have := DL.out; omega
        go_wp2_with fail
        go_roundw
        case rel =>
          refine ⟨k + 1, A3, c3, hkk.out, ?_, rfl, hc3, Lib.hid hQ, h0, hb⟩
          exact congrArg Value.string (d_cat z.natAbs k 0 HC.out)
        case measure => exact d_meas z.natAbs k 0 HC.out (by have := hkk.out; have := DL.out; omega)
      · have nD : nl D = 1 := by rw [nl_pos hD0, Nat.div_eq_of_lt (by rw [B_eq]; omega), nl_zero]
        rw [nD] at HR hc4 ⊢
        obtain ⟨g, rfl, hg, ca⟩ := HR.out.at_ (k := 0) (by omega)
        rw [lm0 D10] at ca
        have e1 : IntKind.u8.wrap (D : Int) = (D : Int) := IntWalk.u8_in _ (by omega)
        have e2 : IntKind.u8.wrap (48 + (D : Int)) = 48 + (D : Int) := IntWalk.u8_in _ (by omega)
        clear nD hD0
        go_upto_region 10 with (fail)
        clear ca e1 e2 hg
        apply wp_region_lit
        refine wl_k rfl (fun K hK => ?_); go_simp; refine hK _ ?_; clear hK K
        refine wl_w rfl (ex_bs114 _ rfl rfl) ?_
        simp only [put_lit, List.set_cons_zero, List.set_cons_succ]
        refine wl_val rfl (ex_cv114 _ rfl rfl (by rw [cell_of_row _ _ _ _ _ _ (ha_new rfl)]; rfl)) ?_
        simp only [put_lit, List.set_cons_zero, List.set_cons_succ]
        refine wl_world (fun W => Lr W A3 (nl (z.natAbs / 10 ^ (k + 1))) (z.natAbs / 10 ^ (k + 1)) ∧ W.heap[w.heap.size]? = some (.cells (iv z A c) 39 (0, 0)) ∧ Below w.heap.size w W) ⟨HQ.out.below ((Below.refl _ _).alloc (Nat.le_refl _) _), ha_old h0, hb.alloc hb.size _⟩ ?_
        clear HQ HR h0 hb
        rintro w5 ⟨hQ, h0, hb⟩
        have hL : ¬ 9223372036854775807 < 1 + (dtxt z.natAbs k).length := by rw [dtxt_length]; have := DL.out; omega
        go_wp2_with fail
        go_roundw
        case rel =>
          refine ⟨k + 1, A3, c3, hkk.out, ?_, rfl, hc3, Lib.hid hQ, h0, hb⟩
          exact congrArg Value.string (d_cat z.natAbs k D HC.out)
        case measure => exact d_meas z.natAbs k D HC.out (by have := hkk.out; have := DL.out; omega)
theorem TextI_any (z : Int) (A : Option Addr) (c : Nat) (w : World) (hI : IvAt w z A c) (nz : nl z.natAbs ≤ 400) (hz : z.natAbs < 10 ^ 64) :
    Calls Tryd.prog 16 #[.agg (iv z A c)] w fun e w' => e = .returned (.string ⟨(txt z).toArray⟩) ∧ Below w.heap.size w w' := by
  by_cases h : z.natAbs = 0
  · obtain rfl : z = 0 := by omega
    exact TextI_zero A c w
  · exact TextI_pos z A c w hI nz hz h
end Go.Proofs.YtclainfdeghgnaaDoor
namespace Go.Proofs.YtclainfdeghgnaaDoor
open Go.RowKit Go.Proofs.YtclainfdeghgnaaDoor.Nm Go.Proofs.YtclainfdeghgnaaDoor.Lm
set_option maxHeartbeats 1000000 in
theorem ValidI_any (u k : Int) (R : Bool) (HR : Hid (R = validD u k)) (w : World) :
    Calls Tryd.prog 10 #[.agg (dc u k)] w fun e w' => e = .returned (.bool R) ∧ Below w.heap.size w w' := by
  go_enter Tryd.func10, Tryd.ntmps10
  go_upto_region 1 with (fail)
  refine wp_world (fun W => W.heap[w.heap.size]? = some (.cells (dc u k) 23 (0, 0)) ∧ Below w.heap.size w W) ⟨ha_new rfl, ((Below.refl _ _).alloc (Nat.le_refl _) _)⟩ ?_
  rintro W ⟨h0, hb⟩
  have c0 := dc0 h0
  have c1 := dc1 h0
  go_wp2_with fail
  all_goals
    go_ret
    refine ⟨congrArg (fun b => Ending.returned (.bool b)) (?_ : _ = R), hb⟩
    rw [HR.out]
    clear HR h0 hb c0 c1
    unfold validD
    first
    | (simp [*]; done)
    | (simp [*]; omega)
end Go.Proofs.YtclainfdeghgnaaDoor
namespace Go.Proofs.YtclainfdeghgnaaDoor
def sgL (u : Int) : List UInt8 := if u < 0 then [45] else []
def padW (k : Nat) (w : List UInt8) : List UInt8 := List.replicate (k + 1 - w.length) 48 ++ w
def bodyL (k : Nat) (w : List UInt8) : List UInt8 := if k = 0 then w else w.take (w.length - k) ++ 46 :: w.drop (w.length - k)
/-- The text of a decimal. -/
def fmtL (u : Int) (k : Nat) : List UInt8 := sgL u ++ bodyL k (padW k (Lib.decDigits u.natAbs))
def okD (u k : Int) : Bool := decide (-100000000000000000 ≤ u) && decide (u ≤ 100000000000000000) && decide (0 ≤ k) && decide (k ≤ 9)
theorem okD_iff {u k : Int} : okD u k = true ↔ -100000000000000000 ≤ u ∧ u ≤ 100000000000000000 ∧ 0 ≤ k ∧ k ≤ 9 := by
  unfold okD; simp [and_assoc]
theorem digs_rec (n : Nat) : Lib.decDigits n = if n < 10 then [UInt8.ofNat (48 + n)] else Lib.decDigits (n / 10) ++ [UInt8.ofNat (48 + n % 10)] := by
  rw [Lib.decDigits]; split <;> rfl
theorem digs_len {n m : Nat} (h : n < 10 ^ (m + 1)) : (Lib.decDigits n).length ≤ m + 1 := by
  induction m generalizing n with
  | zero => rw [digs_rec, if_pos (by simpa using h)]; simp
  | succ m ih =>
    rw [digs_rec]
    split
    · simp
    · have := ih (n := n / 10) (by rw [Nat.pow_succ] at h; omega)
      simp; omega
end Go.Proofs.YtclainfdeghgnaaDoor
namespace Go.Proofs.YtclainfdeghgnaaDoor
open Go.Proofs.YtclainfdeghgnaaDoor.Nm
theorem dtxt_last (n k : Nat) : dtxt n (k + 1) = dtxt (n / 10) k ++ [UInt8.ofNat (48 + n % 10)] := by
  induction k with
  | zero => simp [dtxt, dch, dg]
  | succ k ih =>
    rw [dtxt, ih, dg_succ]
    rfl
theorem digs_dtxt (n : Nat) : Lib.decDigits n = dtxt n (dlen n) := by
  induction n using Nat.strongRecOn with
  | ind n ih =>
    rw [digs_rec]
    split
    · rename_i h
      rw [dlen_small h, dtxt_last, Nat.mod_eq_of_lt h]
      rfl
    · rename_i h
      rw [dlen_big h, dtxt_last, ih (n / 10) (by omega)]
theorem txt_sg (u : Int) : txt u = sgL u ++ Lib.decDigits u.natAbs := by
  unfold txt sgn sgL
  rw [digs_dtxt, ng_def]
  by_cases h : u < 0 <;> simp [h]
theorem itoa_sg (u : Int) : Lib.itoa u = sgL u ++ Lib.decDigits u.natAbs := by
  unfold Lib.itoa sgL
  split
  · rfl
  · rw [show u.toNat = u.natAbs by omega]; rfl
end Go.Proofs.YtclainfdeghgnaaDoor
namespace Go.Proofs
open Go.Shelf
def Tryd.laysM171_ren : Go.Shelf.Ren := ⟨fun | 171 => 15 | 243 => 24 | 246 => 46 | 283 => 78 | 284 => 79 | 285 => 80 | 286 => 81 | 129 => 95 | 317 => 94 | 318 => 96 | 319 => 97 | 320 => 98 | 337 => 105 | 338 => 106 | n => n, fun | 3 => 3 | 9 => 9 | 2 => 2 | 4 => 4 | 171 => 115 | 0 => 0 | 53 => 55 | 37 => 54 | 5 => 5 | 173 => 118 | 212 => 135 | 51 => 53 | 20 => 20 | 213 => 136 | 46 => 57 | 232 => 149 | 233 => 66 | n => n, fun | 17 => 3 | 18 => 4 | 19 => 5 | n => n⟩
theorem Tryd.laysM171 : Go.Proofs.LaysM.n171 Tryd.prog Tryd.laysM171_ren := {
  mixed := by kernel_rfl
  f129 := Tryd.func95.trans (congrArg some (by kernel_rfl))
  f171 := Tryd.func15.trans (congrArg some (by kernel_rfl))
  f243 := Tryd.func24.trans (congrArg some (by kernel_rfl))
  f246 := Tryd.func46.trans (congrArg some (by kernel_rfl))
  f283 := Tryd.func78.trans (congrArg some (by kernel_rfl))
  f284 := Tryd.func79.trans (congrArg some (by kernel_rfl))
  f285 := Tryd.func80.trans (congrArg some (by kernel_rfl))
  f286 := Tryd.func81.trans (congrArg some (by kernel_rfl))
  f317 := Tryd.func94.trans (congrArg some (by kernel_rfl))
  f318 := Tryd.func96.trans (congrArg some (by kernel_rfl))
  f319 := Tryd.func97.trans (congrArg some (by kernel_rfl))
  f320 := Tryd.func98.trans (congrArg some (by kernel_rfl))
  f337 := Tryd.func105.trans (congrArg some (by kernel_rfl))
  f338 := Tryd.func106.trans (congrArg some (by kernel_rfl))
  t0 := Tryd.underlying0
  a0 := Tryd.isAgg0
  z0 := Tryd.sizeOf0
  v0 := Tryd.zeroValue0
  t2 := Tryd.underlying2
  a2 := Tryd.isAgg2
  z2 := Tryd.sizeOf2
  v2 := Tryd.zeroValue2
  t3 := Tryd.underlying3
  a3 := Tryd.isAgg3
  z3 := Tryd.sizeOf3
  v3 := Tryd.zeroValue3
  t4 := Tryd.underlying4
  a4 := Tryd.isAgg4
  z4 := Tryd.sizeOf4
  v4 := Tryd.zeroValue4
  t5 := Tryd.underlying5
  a5 := Tryd.isAgg5
  z5 := Tryd.sizeOf5
  v5 := Tryd.zeroValue5
  t9 := Tryd.underlying9
  a9 := Tryd.isAgg9
  z9 := Tryd.sizeOf9
  v9 := Tryd.zeroValue9
  t20 := Tryd.underlying20
  a20 := Tryd.isAgg20
  z20 := Tryd.sizeOf20
  v20 := Tryd.zeroValue20
  t37 := Tryd.underlying54
  a37 := Tryd.isAgg54
  z37 := Tryd.sizeOf54
  v37 := Tryd.zeroValue54
  t46 := Tryd.underlying57
  a46 := Tryd.isAgg57
  z46 := Tryd.sizeOf57
  v46 := Tryd.zeroValue57
  t51 := Tryd.underlying53
  a51 := Tryd.isAgg53
  z51 := Tryd.sizeOf53
  v51 := Tryd.zeroValue53
  t53 := Tryd.underlying55
  a53 := Tryd.isAgg55
  z53 := Tryd.sizeOf55
  v53 := Tryd.zeroValue55
  t171 := Tryd.underlying115
  a171 := Tryd.isAgg115
  z171 := Tryd.sizeOf115
  v171 := Tryd.zeroValue115
  t173 := Tryd.underlying118
  a173 := Tryd.isAgg118
  z173 := Tryd.sizeOf118
  v173 := Tryd.zeroValue118
  t212 := Tryd.underlying135
  a212 := Tryd.isAgg135
  z212 := Tryd.sizeOf135
  v212 := Tryd.zeroValue135
  t213 := Tryd.underlying136
  a213 := Tryd.isAgg136
  z213 := Tryd.sizeOf136
  t232 := Tryd.underlying149
  a232 := Tryd.isAgg149
  z232 := Tryd.sizeOf149
  v232 := Tryd.zeroValue149
  t233 := Tryd.underlying66
  a233 := Tryd.isAgg66
  z233 := Tryd.sizeOf66
  v233 := Tryd.zeroValue66
  g17 := by kernel_rfl
  g18 := by kernel_rfl
  g19 := by kernel_rfl
  i0 := by kernel_rfl
  i2 := by kernel_rfl
  i3 := by kernel_rfl
  i4 := by kernel_rfl
  i5 := by kernel_rfl
  i9 := by kernel_rfl
  i20 := by kernel_rfl
  i37 := by kernel_rfl
  i46 := by kernel_rfl
  i51 := by kernel_rfl
  i53 := by kernel_rfl
  i171 := by kernel_rfl
  i173 := by kernel_rfl
  i212 := by kernel_rfl
  i232 := by kernel_rfl
  i233 := by kernel_rfl
  m17 := by kernel_rfl
  m18 := by kernel_rfl
  m19 := by kernel_rfl }
open Go.RowKit Go.Sort Go.Lib in
theorem Tryd.strconv_Itoa (n : Int) (h0 : -9223372036854775808 ≤ n) (h1 : n ≤ 9223372036854775807) (w : World) (htab : Lib.TabIs Tryd.prog w "internal/strconv.uint64pow10" .u64 Lib.pow10Tab) :
    Calls Tryd.prog 15 #[.int .i64 n] w fun e w' => e = .returned (.string ⟨(Lib.itoa n).toArray⟩) ∧ ∃ k os, w' = grow (w.drewN k) os := Any.strconv_Itoa Tryd.laysM171 n h0 h1 w htab
end Go.Proofs
namespace Go.Proofs.YtclainfdeghgnaaDoor
open Go.RowKit Go.Proofs.YtclainfdeghgnaaDoor.Nm
set_option linter.unusedSimpArgs false
theorem run_storeC (b o : Nat) (ty : TypeId) (v : Value) (w : World) (hi : (Tryd.prog.info? ty).map (·.size) = some 1) (h1 : v.oneCell' = true) (hc : (w.cell? ⟨b, o, none⟩).isSome = true) (hf : w.frozen? ⟨b, o, none⟩ = false) :
    (storeVar ty ⟨b, o, none⟩ v).run Tryd.prog w = .ok () (w.setCell ⟨b, o, none⟩ v) := by
  have hst := run_storeCells_cells (P := Tryd.prog) b o [v] 0 w (by intro j hj; simp at hj; subst hj; simpa using hc) (by intro j hj; simp at hj; subst hj; simpa using hf) (by intro u hu; simp at hu; subst hu; exact h1)
  have hcl : v.cells = #[v] := by cases v <;> first | rfl | cases h1
  cases hq : Tryd.prog.info? ty with
  | none => simp [hq] at hi
  | some i =>
    have hs : i.size = 1 := by simpa [hq] using hi
    simp [storeVar, sizeOf, typeInfo, hq, hcl, hs]
    exact (by simpa using hst : _ = Result.ok () (w.setCells b o [v]))
theorem wp_storeC {op : Oper} {a : Act} {w : World} {K : Act → World → Prop} {Q : Exit → Act → World → Prop} (ty : TypeId) (x y : Operand) (ho : op.op = .store ty x y) (b o : Nat) (v : Value)
    (hx : a.eval x = .pointer (some ⟨b, o, none⟩)) (hy : a.eval y = v) (hi : (Tryd.prog.info? ty).map (·.size) = some 1) (h1 : v.oneCell' = true) (hc : (w.cell? ⟨b, o, none⟩).isSome = true) (hf : w.frozen? ⟨b, o, none⟩ = false)
    (h : K (a.put op.dst undef) (w.setCell ⟨b, o, none⟩ v)) : op.wp Tryd.prog a w K Q := by
  unfold Oper.wp execOp
  simp only [ho, hx, hy, Instr.storeAt, Instr.sureAddr, Sem.run_bind, Sem.run_pure, Result.andThen_ok, run_storeC b o ty v w hi h1 hc hf]
  exact h
theorem wl_storeC {ops : Array Oper} {rest : List Oper} {op : Oper} {a : Act} {w : World} {Q : Exit → Act → World → Prop} (hg : op.guard = none) (ty : TypeId) (x y : Operand) (ho : op.op = .store ty x y) (b o : Nat) (v : Value)
    (hx : a.eval x = .pointer (some ⟨b, o, none⟩)) (hy : a.eval y = v) (hi : (Tryd.prog.info? ty).map (·.size) = some 1) (h1 : v.oneCell' = true) (hc : (w.cell? ⟨b, o, none⟩).isSome = true) (hf : w.frozen? ⟨b, o, none⟩ = false)
    (h : wpList Tryd.prog ops Q rest (a.put op.dst undef) (w.setCell ⟨b, o, none⟩ v)) : wpList Tryd.prog ops Q (op :: rest) a w :=
  wpList_plain hg fun _ hK => wp_storeC ty x y ho b o v hx hy hi h1 hc hf (hK _ _ h)
/-- A guarded operation left out, whose slot is empty. -/
theorem put_undef (l : List Value) (df : List Deferred) (d : Nat) (h : l[d]? = some undef) : (Act.mk l.toArray df).put (some d) undef = Act.mk l.toArray df := by
  rw [put_lit]
  congr 2
  apply List.ext_getElem?
  intro i
  rw [List.getElem?_set]
  split
  · rename_i e; subst e
    split
    · exact h.symm
    · rename_i hn; rw [List.getElem?_eq_none (by omega)]
  · rfl
theorem wl_skipU {P : Program} {ops : Array Oper} {rest : List Oper} {op : Op} {d : Nat} {ty : TypeId} {pos : String} {after : Array Edge} {g : Option (Nat × Bool)} {l : List Value} {df : List Deferred} {w : World} {Q : Exit → Act → World → Prop} (hg : Region.wanted ⟨some d, op, ty, pos, after, g⟩ (yielded ops (Act.mk l.toArray df).tmps) = false) (hu : l[d]? = some undef)
    (h : wpList P ops Q rest (Act.mk l.toArray df) w) : wpList P ops Q (⟨some d, op, ty, pos, after, g⟩ :: rest) (Act.mk l.toArray df) w :=
  wl_skip hg (by rw [put_undef l df d hu]; exact h)
theorem put_noneA (a : Act) (v : Value) : a.put none v = a := rfl
theorem info3d : (Tryd.prog.info? 3).map (·.size) = some 1 := by kernel_rfl
theorem u3d : Tryd.prog.underlying 3 = some (.int .i64) := by kernel_rfl
section
variable {ops : Array Oper} {rest : List Oper} {dst : Option Tmp} {ty ty' : TypeId} {x y : Operand} {pos : String} {after : Array Edge} {g : Option (Nat × Bool)} {a : Act} {w : World} {Q : Exit → Act → World → Prop} {ad : Addr} {v : Value}
theorem wl_oneG (hg : Region.wanted ⟨dst, .load ty x, ty', pos, after, g⟩ (yielded ops a.tmps) = true) (hx : a.eval x = .pointer (some ad)) (hr : OneAt w ty ad v) (h : wpList Tryd.prog ops Q rest (a.put dst v) w) : wpList Tryd.prog ops Q (⟨dst, .load ty x, ty', pos, after, g⟩ :: rest) a w := by
  refine wpList_step fun K hK => ?_
  rw [if_pos hg]
  unfold Oper.wp; rw [ex_one hx hr]; exact hK _ _ h
theorem run_boxD (u k : Int) (w : World) : (Instr.box 23 (.agg (dc u k))).run Tryd.prog w = .ok (.pointer (some ⟨w.heap.size, 0, none⟩)) (w.alloc (.cells (dc u k) 23)) := by kernel_rfl
theorem wl_boxD {u k : Int} (hx : a.eval x = .agg (dc u k)) (h : ∀ W p, Below w.heap.size w W → w.heap.size ≤ p → W.heap[p]? = some (.cells (dc u k) 23 (0, 0)) → wpList Tryd.prog ops Q rest (a.put dst (.pointer (some ⟨p, 0, none⟩))) W) : wpList Tryd.prog ops Q (⟨dst, .box 23 x, ty', pos, after, none⟩ :: rest) a w :=
  wl_w rfl (w2 := w.alloc (.cells (dc u k) 23)) (by
    unfold execOp
    have := run_boxD u k w
    simp [hx, this, Result.andThen]) (h _ _ ((Below.refl _ w).alloc (Nat.le_refl _) _) (Nat.le_refl _) (ha_new rfl))
theorem ex_allD (ev : Operand → Value) (w : World) : (execOp ev ⟨dst, .alloc 23, ty', pos, after, none⟩).run Tryd.prog w = .ok (.value (.pointer (some ⟨w.heap.size, 0, none⟩))) (w.alloc (.cells (dc 0 0) 23)) := by kernel_rfl
theorem wl_allD (h : ∀ W p, Below w.heap.size w W → w.heap.size ≤ p → W.heap[p]? = some (.cells (dc 0 0) 23 (0, 0)) → wpList Tryd.prog ops Q rest (a.put dst (.pointer (some ⟨p, 0, none⟩))) W) : wpList Tryd.prog ops Q (⟨dst, .alloc 23, ty', pos, after, none⟩ :: rest) a w := wl_new ex_allD h
theorem run_bsD (u k : Int) (w : World) : (Instr.buildSlice 49 1 #[(0, .agg (dc u k))]).run Tryd.prog w = .ok (.slice (some ⟨w.heap.size, 0, none⟩) 1 1) (w.alloc (.cells (dc u k) 23)) := by kernel_rfl
theorem wl_bsD {u k : Int} (hx : a.eval x = .agg (dc u k)) (h : ∀ W p, Below w.heap.size w W → w.heap.size ≤ p → W.heap[p]? = some (.cells (dc u k) 23 (0, 0)) → wpList Tryd.prog ops Q rest (a.put dst (.slice (some ⟨p, 0, none⟩) 1 1)) W) : wpList Tryd.prog ops Q (⟨dst, .buildSlice 49 1 #[(0, x)], ty', pos, after, none⟩ :: rest) a w :=
  wl_w rfl (w2 := w.alloc (.cells (dc u k) 23)) (by
    unfold execOp
    have := run_bsD u k w
    simp [hx, this, Result.andThen]) (h _ _ ((Below.refl _ w).alloc (Nat.le_refl _) _) (Nat.le_refl _) (ha_new rfl))
/-- A field of a decimal stored. -/
theorem wl_fldU {b : Nat} {u k u' : Int} (hx : a.eval x = .pointer (some ⟨b, 0, none⟩)) (hy : a.eval y = .int .i64 u') (hb : w.heap[b]? = some (.cells (dc u k) 23 (0, 0)))
    (h : ∀ W, (∀ B w0, B ≤ b → Below B w0 w → Below B w0 W) → (∀ k o, k ≠ b → w.heap[k]? = some o → W.heap[k]? = some o) → W.heap[b]? = some (.cells (dc u' k) 23 (0, 0)) → wpList Tryd.prog ops Q rest a W) : wpList Tryd.prog ops Q (⟨none, .store 3 x y, ty', pos, after, none⟩ :: rest) a w := by
  refine wl_storeC rfl 3 x y rfl b 0 (.int .i64 u') hx hy info3d rfl (by rw [dc0 hb]; rfl) (by unfold World.frozen?; rw [hb]; rfl) ?_
  rw [put_noneA]
  exact h _ (fun B w0 hB h0 => h0.setCell (p := ⟨b, 0, none⟩) hB _) (fun j o hne h0 => hs_old h0 hne) (hs_new hb)
theorem wl_fldK {b : Nat} {u k k' : Int} (hx : a.eval x = .pointer (some ⟨b, 1, none⟩)) (hy : a.eval y = .int .i64 k') (hb : w.heap[b]? = some (.cells (dc u k) 23 (0, 0)))
    (h : ∀ W, (∀ B w0, B ≤ b → Below B w0 w → Below B w0 W) → (∀ k o, k ≠ b → w.heap[k]? = some o → W.heap[k]? = some o) → W.heap[b]? = some (.cells (dc u k') 23 (0, 0)) → wpList Tryd.prog ops Q rest a W) : wpList Tryd.prog ops Q (⟨none, .store 3 x y, ty', pos, after, none⟩ :: rest) a w := by
  refine wl_storeC rfl 3 x y rfl b 1 (.int .i64 k') hx hy info3d rfl (by rw [dc1 hb]; rfl) (by unfold World.frozen?; rw [hb]; rfl) ?_
  rw [put_noneA]
  exact h _ (fun B w0 hB h0 => h0.setCell (p := ⟨b, 1, none⟩) hB _) (fun j o hne h0 => hs_old h0 hne) (hs_new hb)
end
theorem fD0 {w : World} {b : Nat} {u k : Int} {t : TypeId} {fr : Nat × Nat} (hb : w.heap[b]? = some (.cells (dc u k) t fr)) : OneAt w 3 ⟨b, 0, none⟩ (.int .i64 u) := one_of u3d rfl (dc0 hb)
theorem fD1 {w : World} {b : Nat} {u k : Int} {t : TypeId} {fr : Nat × Nat} (hb : w.heap[b]? = some (.cells (dc u k) t fr)) : OneAt w 3 ⟨b, 1, none⟩ (.int .i64 k) := one_of u3d rfl (dc1 hb)
theorem valid_one {w : World} {g : Nat} {u k : Int} (hg : w.heap[g]? = some (.cells (dc u k) 23 (0, 0))) (R : Bool) (hR : R = validD u k) : Calls Tryd.prog 14 #[.slice (some ⟨g, 0, none⟩) 1 1] w fun e w' => e = .returned (.bool R) ∧ Below w.heap.size w w' :=
  valid_any g 1 [(u, k)] (by simp) R (Lib.hid (by rw [hR]; simp [allD])) w hg
end Go.Proofs.YtclainfdeghgnaaDoor
namespace Go.Proofs.YtclainfdeghgnaaDoor
open Go.RowKit Go.Proofs.YtclainfdeghgnaaDoor.Nm
set_option linter.unusedSimpArgs false
def normP : Int → Nat → Int × Nat
  | u, 0 => (u, 0)
  | u, k + 1 => if u.tmod 10 = 0 then normP (u.tdiv 10) k else (u, k + 1)
/-- What Normal gives: units, scale, error. -/
def nrm (u k : Int) : Int × Int × Int := if okD u k = true then ((normP u k.toNat).1, ((normP u k.toNat).2 : Int), 0) else (0, 0, 4)
def nrmV (u k : Int) : Value := .tuple #[.agg (dc (nrm u k).1 (nrm u k).2.1), .int .i64 (nrm u k).2.2]
theorem nrm_bad {u k : Int} (h : okD u k = false) : nrmV u k = .tuple #[.agg (dc 0 0), .int .i64 4] := by unfold nrmV nrm; rw [h]; rfl
theorem nrm_good {u k u' : Int} {k' : Nat} (h : okD u k = true) (e : normP u k.toNat = (u', k')) : nrmV u k = .tuple #[.agg (dc u' (k' : Int)), .int .i64 0] := by unfold nrmV nrm; rw [if_pos h, e]
theorem normP_step {u : Int} {k : Nat} (hk : 0 < k) (hm : u.tmod 10 = 0) : normP u k = normP (u.tdiv 10) (k - 1) := by
  obtain ⟨j, rfl⟩ : ∃ j, k = j + 1 := ⟨k - 1, by omega⟩
  rw [normP, if_pos hm]; rfl
theorem normP_end {u : Int} {k : Nat} (h : ¬ (0 < k ∧ u.tmod 10 = 0)) : normP u k = (u, k) := by
  cases k with
  | zero => rfl
  | succ k => rw [normP, if_neg fun e => h ⟨by omega, e⟩]
theorem tdiv_bd {u : Int} (h1 : -100000000000000000 ≤ u) (h2 : u ≤ 100000000000000000) : -100000000000000000 ≤ u.tdiv 10 ∧ u.tdiv 10 ≤ 100000000000000000 := by
  rcases Int.le_total 0 u with h | h
  · rw [Int.tdiv_eq_ediv_of_nonneg h]; omega
  · obtain ⟨v, rfl⟩ : ∃ v, u = -v := ⟨-u, by omega⟩
    rw [Int.neg_tdiv, Int.tdiv_eq_ediv_of_nonneg (by omega)]; omega
def kOf (w : World) (p : Nat) : Nat := match w.heap[p]? with
  | some (.cells cs _ _) => (match (cs[1]? : Option Value) with | some (Value.int _ k) => k.toNat | _ => 0)
  | _ => 0
theorem kOf_dc {w : World} {p : Nat} {u k : Int} {t : TypeId} {fr : Nat × Nat} (h : w.heap[p]? = some (.cells (dc u k) t fr)) : kOf w p = k.toNat := by unfold kOf; rw [h]; rfl
set_option maxHeartbeats 4000000 in
set_option maxRecDepth 100000 in
theorem Normal_any (u k : Int) (w : World) : Calls Tryd.prog 5 #[.agg (dc u k)] w fun e w' => e = .returned (nrmV u k) ∧ Below w.heap.size w w' := by
  have hb := Below.refl w.heap.size w
  go_enter Tryd.func5, Tryd.ntmps5
  go_upto_region 0 with (fail)
  apply wp_region_lit
  (with_reducible refine wl_boxD rfl ?_); intro W p hbn hlp hp; replace hb := hb.trans (hbn.mono hb.size); clear hbn; simp only [put_lit, List.set_cons_zero, List.set_cons_succ]
  have lthpq := heap_lt hp; (with_reducible refine wl_allD ?_); intro W2 q hbn hlq hq; replace hp := below_look hbn hp; replace hb := hb.trans (hbn.mono hb.size); clear hbn; simp only [put_lit, List.set_cons_zero, List.set_cons_succ]
  (with_reducible refine wl_k ?_ ?_); exact rfl; intro K hK; go_simp; refine hK _ ?_; clear hK K
  obtain ⟨R, hR⟩ : ∃ R, R = validD u k := ⟨_, rfl⟩
  have HR := Lib.hid hR
  clear hR
  have hlp2 : w.heap.size ≤ p := by omega
  have hlq2 : w.heap.size ≤ q := by omega
  go_upto_region 1 with (fail)
  apply wp_region_lit
  ((with_reducible apply wl_rowG); exact rfl; exact rfl; exact rowDc hp)
  have lthpg := heap_lt hp; have lthqg := heap_lt hq; (with_reducible refine wl_bsD rfl ?_); intro W3 g hbn hlg hg; replace hp := below_look hbn hp; replace hq := below_look hbn hq; replace hb := hb.trans (hbn.mono hb.size); clear hbn; simp only [put_lit, List.set_cons_zero, List.set_cons_succ]
  (with_reducible refine wl_ck ?_ ?_); exact rfl; intro K hK; go_simp; refine ⟨_, _, ⟨rfl, rfl⟩, hK _ _ ⟨_, valid_one hg R HR.out, ?_⟩⟩; clear hK K; rintro e w4 ⟨rfl, hb4⟩; refine ⟨_, rfl, ?_⟩; simp only [put_lit, List.set_cons_zero, List.set_cons_succ]
  replace hp := below_look hb4 hp; replace hq := below_look hb4 hq; replace hb := hb.trans (hb4.mono hb.size); clear hb4
  clear hg
  cases R with
  | false =>
    (with_reducible refine wl_k ?_ ?_); exact rfl; intro K hK; go_simp; refine hK _ ?_; clear hK K
    have HV : Hid (Ending.returned (.tuple #[.agg (dc 0 0), .int .i64 4]) = Ending.returned (nrmV u k)) := Lib.hid (by rw [nrm_bad HR.out.symm])
    go_upto_region 2 with (fail)
    apply wp_region_lit
    (with_reducible refine wl_k ?_ ?_); exact rfl; intro K hK; go_simp; refine hK _ ?_; clear hK K
    (with_reducible refine wl_put33 (u := 0) (k := 0) rfl rfl hq ?_); intro W5 hbx5 hkx5 hq5
    replace hb := hbx5 _ _ hlq2 hb
    (with_reducible refine wl_k ?_ ?_); exact rfl; intro K hK; go_simp; refine hK _ ?_; clear hK K
    go_wp2_with fail
    refine bodyPost_ret (res_decErr rfl _ _ q rfl hq5) rfl ⟨?_, hb⟩
    exact HV.out
  | true =>
    (with_reducible refine wl_k ?_ ?_); exact rfl; intro K hK; go_simp; refine hK _ ?_; clear hK K
    obtain ⟨k0, hk0⟩ : ∃ n : Nat, k = (n : Int) := ⟨k.toNat, by have := (okD_iff.1 HR.out.symm).2.2.1; omega⟩
    subst hk0
    have hpq : p ≠ q := by have := heap_lt hp; omega
    have HO := Lib.hid (show okD u k0 = true from HR.out.symm)
    have HP := Lib.hid hp
    have HQ := Lib.hid hq
    have HB := Lib.hid hb
    clear hp hq hb
    go_wp2_with fail
    go_loopw [] (fun wr => ∃ (u' : Int) (k' : Nat), Hid (wr.heap[p]? = some (.cells (dc u' (k' : Int)) 23 (0, 0))) ∧ Hid (wr.heap[q]? = some (.cells (dc 0 0) 23 (0, 0))) ∧ Hid (normP u k0 = normP u' k') ∧ Hid (okD u' k' = true) ∧ Hid (Below w.heap.size w wr)) (fun wr => kOf wr p)
    case atStart => exact ⟨u, k0, HP, HQ, Lib.hid rfl, HO, HB⟩
    case round =>
      clear HP HQ HB
      obtain ⟨u', k', HP, HQ, HN, HK, HB⟩ := hrel
      obtain ⟨n1, n2, -, n4⟩ := okD_iff.1 HK.out
      have hp := HP.out
      go_upto_region 3 with (fail)
      by_cases hk : 0 < k'
      · have hkI : (0 : Int) < (k' : Int) := by omega
        by_cases hm : u'.tmod 10 = 0
        · obtain ⟨d1, d2⟩ := tdiv_bd n1 n2
          have hwq : IntKind.i64.wrap (u'.tdiv 10) = u'.tdiv 10 := IntWalk.i64_in _ (by omega)
          apply wp_region_lit
          (with_reducible refine wl_k ?_ ?_); exact rfl; intro K hK; go_simp; refine hK _ ?_; clear hK K
          ((with_reducible apply wl_oneG); exact rfl; exact rfl; exact fD1 hp)
          (with_reducible refine wl_k ?_ ?_); exact rfl; intro K hK; go_simp; refine hK _ ?_; clear hK K
          (with_reducible refine wl_k ?_ ?_); exact rfl; intro K hK; go_simp; refine hK _ ?_; clear hK K
          (with_reducible refine wl_k ?_ ?_); exact rfl; intro K hK; go_simp; refine hK _ ?_; clear hK K
          ((with_reducible apply wl_oneG); exact rfl; exact rfl; exact fD0 hp)
          (with_reducible refine wl_k ?_ ?_); exact rfl; intro K hK; go_simp; refine hK _ ?_; clear hK K
          (with_reducible refine wl_k ?_ ?_); exact rfl; intro K hK; go_simp; refine hK _ ?_; clear hK K
          (with_reducible refine wl_k ?_ ?_); exact rfl; intro K hK; go_simp; refine hK _ ?_; clear hK K
          go_upto_region 4 with (fail)
          apply wp_region_lit
          (with_reducible refine wl_k ?_ ?_); exact rfl; intro K hK; go_simp; refine hK _ ?_; clear hK K
          ((with_reducible apply wl_oneG); exact rfl; exact rfl; exact fD0 hp)
          (with_reducible refine wl_k ?_ ?_); exact rfl; intro K hK; go_simp; refine hK _ ?_; clear hK K
          (with_reducible refine wl_k ?_ ?_); exact rfl; intro K hK; go_simp; refine hK _ ?_; clear hK K
          (with_reducible refine wl_fldU rfl rfl hp ?_); intro W5 hbx5 hkx5 hp5
          go_upto_region 5 with (fail)
          have hw1 : IntKind.i64.wrap ((k' : Int) - 1) = (k' : Int) - 1 := IntWalk.i64_in _ (by omega)
          apply wp_region_lit
          (with_reducible refine wl_k ?_ ?_); exact rfl; intro K hK; go_simp; refine hK _ ?_; clear hK K
          ((with_reducible apply wl_oneG); exact rfl; exact rfl; exact fD1 hp5)
          (with_reducible refine wl_k ?_ ?_); exact rfl; intro K hK; go_simp; refine hK _ ?_; clear hK K
          (with_reducible refine wl_k ?_ ?_); exact rfl; intro K hK; go_simp; refine hK _ ?_; clear hK K
          (with_reducible refine wl_fldK rfl rfl hp5 ?_); intro W6 hbx6 hkx6 hp6
          obtain ⟨j, rfl⟩ : ∃ j, k' = j + 1 := ⟨k' - 1, by omega⟩
          have e1 : ((j + 1 : Nat) : Int) - 1 = (j : Int) := by omega
          rw [e1] at hp6
          have hq6 := hkx6 _ _ hpq.symm (hkx5 _ _ hpq.symm HQ.out)
          have hb6 := hbx6 _ _ hlp2 (hbx5 _ _ hlp2 HB.out)
          have hN6 : normP u k0 = normP (u'.tdiv 10) j := by rw [HN.out, normP_step hk hm]; rfl
          have hK6 : okD (u'.tdiv 10) (j : Int) = true := okD_iff.2 ⟨by omega, by omega, by omega, by omega⟩
          have hM : kOf W6 p < kOf wr p := by rw [kOf_dc hp6, kOf_dc hp]; omega
          have HP6 := Lib.hid hp6
          have HQ6 := Lib.hid hq6
          have HB6 := Lib.hid hb6
          have HN6 := Lib.hid hN6
          have HK6 := Lib.hid hK6
          have HM := Lib.hid hM
          clear hwq hp6 hq6 hb6 hN6 hK6 hM e1 hw1 hp hp5 hbx5 hkx5 hbx6 hkx6 HP HQ HN HK HB
          go_wp2_with fail
          go_roundw
          case rel => exact ⟨_, j, HP6, HQ6, HN6, HK6, HB6⟩
          case measure => exact HM.out
        · have HF : Hid (normP u' k' = (u', k')) := Lib.hid (normP_end fun e => hm e.2)
          apply wp_region_lit
          (with_reducible refine wl_k ?_ ?_); exact rfl; intro K hK; go_simp; refine hK _ ?_; clear hK K
          ((with_reducible apply wl_oneG); exact rfl; exact rfl; exact fD1 hp)
          (with_reducible refine wl_k ?_ ?_); exact rfl; intro K hK; go_simp; refine hK _ ?_; clear hK K
          (with_reducible refine wl_k ?_ ?_); exact rfl; intro K hK; go_simp; refine hK _ ?_; clear hK K
          (with_reducible refine wl_k ?_ ?_); exact rfl; intro K hK; go_simp; refine hK _ ?_; clear hK K
          ((with_reducible apply wl_oneG); exact rfl; exact rfl; exact fD0 hp)
          (with_reducible refine wl_k ?_ ?_); exact rfl; intro K hK; go_simp; refine hK _ ?_; clear hK K
          (with_reducible refine wl_k ?_ ?_); exact rfl; intro K hK; go_simp; refine hK _ ?_; clear hK K
          (with_reducible refine wl_k ?_ ?_); exact rfl; intro K hK; go_simp; refine hK _ ?_; clear hK K
          go_upto_region 6 with (fail)
          apply wp_region_lit
          ((with_reducible apply wl_rowG); exact rfl; exact rfl; exact rowDc hp)
          have hq := HQ.out
          (with_reducible refine wl_put33 rfl rfl hq ?_); intro W5 hbx5 hkx5 hq5
          have hb5 := hbx5 _ _ hlq2 HB.out
          (with_reducible refine wl_k ?_ ?_); exact rfl; intro K hK; go_simp; refine hK _ ?_; clear hK K
          have HV : Hid (Ending.returned (.tuple #[.agg (dc u' (k' : Int)), .int .i64 0]) = Ending.returned (nrmV u k0)) := Lib.hid (by rw [nrm_good HO.out (by rw [show ((k0 : Int)).toNat = k0 by omega, HN.out, HF.out])])
          go_wp2_with fail
          refine bodyPost_ret (res_decErr rfl _ _ q rfl hq5) rfl ⟨?_, hb5⟩
          exact HV.out
      · have hkI : ¬ (0 : Int) < (k' : Int) := by omega
        have HF : Hid (normP u' k' = (u', k')) := Lib.hid (normP_end fun e => hk e.1)
        apply wp_region_lit
        (with_reducible refine wl_k ?_ ?_); exact rfl; intro K hK; go_simp; refine hK _ ?_; clear hK K
        ((with_reducible apply wl_oneG); exact rfl; exact rfl; exact fD1 hp)
        (with_reducible refine wl_k ?_ ?_); exact rfl; intro K hK; go_simp; refine hK _ ?_; clear hK K
        (with_reducible refine wl_k ?_ ?_); exact rfl; intro K hK; go_simp; refine hK _ ?_; clear hK K
        (first | ((with_reducible refine wl_skipU ?_ ?_ ?_); exact rfl; exact rfl) | ((with_reducible refine wl_skip ?_ ?_); exact rfl; simp only [put_lit, List.set_cons_zero, List.set_cons_succ]))
        (first | ((with_reducible refine wl_skipU ?_ ?_ ?_); exact rfl; exact rfl) | ((with_reducible refine wl_skip ?_ ?_); exact rfl; simp only [put_lit, List.set_cons_zero, List.set_cons_succ]))
        (first | ((with_reducible refine wl_skipU ?_ ?_ ?_); exact rfl; exact rfl) | ((with_reducible refine wl_skip ?_ ?_); exact rfl; simp only [put_lit, List.set_cons_zero, List.set_cons_succ]))
        (first | ((with_reducible refine wl_skipU ?_ ?_ ?_); exact rfl; exact rfl) | ((with_reducible refine wl_skip ?_ ?_); exact rfl; simp only [put_lit, List.set_cons_zero, List.set_cons_succ]))
        (with_reducible refine wl_k ?_ ?_); exact rfl; intro K hK; go_simp; refine hK _ ?_; clear hK K
        go_upto_region 6 with (fail)
        apply wp_region_lit
        ((with_reducible apply wl_rowG); exact rfl; exact rfl; exact rowDc hp)
        have hq := HQ.out
        (with_reducible refine wl_put33 rfl rfl hq ?_); intro W5 hbx5 hkx5 hq5
        have hb5 := hbx5 _ _ hlq2 HB.out
        (with_reducible refine wl_k ?_ ?_); exact rfl; intro K hK; go_simp; refine hK _ ?_; clear hK K
        have HV : Hid (Ending.returned (.tuple #[.agg (dc u' (k' : Int)), .int .i64 0]) = Ending.returned (nrmV u k0)) := Lib.hid (by rw [nrm_good HO.out (by rw [show ((k0 : Int)).toNat = k0 by omega, HN.out, HF.out])])
        go_wp2_with fail
        refine bodyPost_ret (res_decErr rfl _ _ q rfl hq5) rfl ⟨?_, hb5⟩
        exact HV.out
end Go.Proofs.YtclainfdeghgnaaDoor
