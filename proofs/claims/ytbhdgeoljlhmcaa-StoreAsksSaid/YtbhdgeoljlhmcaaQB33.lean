/- What is asked of a store, by the program and by the document, whatever the names; a store that is nil. -/
import Derived.Outline
import Derived.Test.YtbhdgeoljlhmcaaQB32
import Derived.Test.YtbhdgeoljlhmcaaQB15
namespace Go.Proofs.Ytbhdgeoljlhmcaa
open Go.RowKit Go.Proofs.Ytbhdgeoljlhmcaa.Nm Go.Proofs.Ytbhdgeoljlhmcaa.St
set_option linter.unusedSimpArgs false
theorem perm_of_sub {α : Type} [DecidableEq α] : ∀ {l1 l2 : List α}, l1.Nodup → l1.length = l2.length → (∀ p ∈ l1, p ∈ l2) → l1.Perm l2
  | [], l2, _, h, _ => by simp at h; rw [List.length_eq_zero_iff.1 h.symm]
  | a :: l1, l2, hn, h, hs => by
    have ha := hs a (by simp)
    have hp := List.perm_cons_erase ha
    refine (List.Perm.cons a (perm_of_sub (List.nodup_cons.1 hn).2 ?_ (fun p hp2 => ?_))).trans hp.symm
    · have := hp.length_eq; simp at this h ⊢; omega
    · have hne : p ≠ a := fun e => (List.nodup_cons.1 hn).1 (e ▸ hp2)
      exact (List.mem_erase_of_ne hne).2 (hs p (by simp [hp2]))
theorem same_alike {x y : Buf} (hx : Apt (pairsT x.t)) (hy : Apt (pairsT y.t)) : sameB x y = alikeB x y := by
  unfold sameB alikeB
  congr 2
  rw [Bool.eq_iff_iff, mapD_equal hx hy, permB_iff]
  exact ⟨fun h => perm_of_sub (apt_nodup hx) h.1 h.2, fun h => ⟨h.length_eq, fun p hp => h.mem_iff.1 hp⟩⟩
def getN (A : Sto) (n : Int) (k : ByteArray) : Int × Int := if isNm n then getA (A.buf n) k else (0, 4)
def atN (A : Sto) (n i : Int) : ByteArray × Int := if isNm n then atA (A.buf n) i else (⟨#[]⟩, 4)
def lenN (A : Sto) (n : Int) : Int × Int := if isNm n then (lenA (A.buf n), 0) else (0, 4)
def sameN (A : Sto) (a b : Int) : Bool × Int := if isNm a && isNm b then (alikeB (A.buf a) (A.buf b), 0) else (false, 4)
theorem nm_nat {n : Int} (hn : isNm n = true) : ∃ f : Nat, n = (f : Int) ∧ (f : Int) < 8 := by
  unfold isNm at hn
  simp only [Bool.and_eq_true, decide_eq_true_eq] at hn
  exact ⟨n.toNat, by omega, by omega⟩
theorem Get_gen (s : Nat) (A : Sto) (rs : List Row) (hA : Good A) (n : Int) (k : ByteArray) (hk : k.size ≤ 1000000000) (w : World) (h : StoreAt w s A rs) :
    Calls Try.prog 37 #[.pointer (some ⟨s, 0, none⟩), .int .i64 n, .string k] w fun e w' => e = .returned (.tuple #[.int .i64 (getN A n k).1, .int .i64 (getN A n k).2]) ∧ Below w.heap.size w w' := by
  unfold getN
  cases hn : isNm n with
  | false => exact Get_no s n hn k w
  | true => obtain ⟨f, rfl, hf⟩ := nm_nat hn; exact Get_yes s A rs hA f hf k hk w h
theorem GetI_gen (v : Value) (A : Sto) (B : Nat) (hA : Good A) (n : Int) (k : ByteArray) (w : World) (h : DAt w B v A) :
    Calls Try.prog 45 #[v, .int .i64 n, .string k] w fun e w' => e = .returned (.tuple #[.int .i64 (getN A n k).1, .int .i64 (getN A n k).2]) ∧ Below w.heap.size w w' := by
  unfold getN
  cases hn : isNm n with
  | false => exact GetI_no v A B n hn k w h
  | true => obtain ⟨f, rfl, hf⟩ := nm_nat hn; exact GetI_yes v A B hA f hf k w h
theorem At_gen (s : Nat) (A : Sto) (rs : List Row) (hA : Good A) (n i : Int) (w : World) (h : StoreAt w s A rs) :
    Calls Try.prog 46 #[.pointer (some ⟨s, 0, none⟩), .int .i64 n, .int .i64 i] w fun e w' => e = .returned (.tuple #[.string (atN A n i).1, .int .i64 (atN A n i).2]) ∧ Below w.heap.size w w' := by
  unfold atN
  cases hn : isNm n with
  | false => exact At_no s n hn i w
  | true => obtain ⟨f, rfl, hf⟩ := nm_nat hn; exact At_yes s A rs hA f hf i w h
theorem AtI_gen (v : Value) (A : Sto) (B : Nat) (hA : Good A) (n i : Int) (w : World) (h : DAt w B v A) :
    Calls Try.prog 47 #[v, .int .i64 n, .int .i64 i] w fun e w' => e = .returned (.tuple #[.string (atN A n i).1, .int .i64 (atN A n i).2]) ∧ Below w.heap.size w w' := by
  unfold atN
  cases hn : isNm n with
  | false => exact AtI_no v A B n hn i w h
  | true => obtain ⟨f, rfl, hf⟩ := nm_nat hn; exact AtI_yes v A B hA f hf i w h
theorem Len_gen (s : Nat) (A : Sto) (rs : List Row) (hA : Good A) (n : Int) (w : World) (h : StoreAt w s A rs) :
    Calls Try.prog 41 #[.pointer (some ⟨s, 0, none⟩), .int .i64 n] w fun e w' => e = .returned (.tuple #[.int .i64 (lenN A n).1, .int .i64 (lenN A n).2]) ∧ Below w.heap.size w w' := by
  unfold lenN
  cases hn : isNm n with
  | false => exact Len_no s n hn w
  | true => obtain ⟨f, rfl, hf⟩ := nm_nat hn; exact Len_yes s A rs hA f hf w h
theorem LenI_gen (v : Value) (A : Sto) (B : Nat) (hA : Good A) (n : Int) (w : World) (h : DAt w B v A) :
    Calls Try.prog 42 #[v, .int .i64 n] w fun e w' => e = .returned (.tuple #[.int .i64 (lenN A n).1, .int .i64 (lenN A n).2]) ∧ Below w.heap.size w w' := by
  unfold lenN
  cases hn : isNm n with
  | false => exact LenI_no v A B n hn w h
  | true => obtain ⟨f, rfl, hf⟩ := nm_nat hn; exact LenI_yes v A B hA f hf w h
theorem Same_gen (s : Nat) (A : Sto) (rs : List Row) (hA : Good A) (a b : Int) (w : World) (h : StoreAt w s A rs) :
    Calls Try.prog 44 #[.pointer (some ⟨s, 0, none⟩), .int .i64 a, .int .i64 b] w fun e w' => e = .returned (.tuple #[.bool (sameN A a b).1, .int .i64 (sameN A a b).2]) ∧ Below w.heap.size w w' := by
  unfold sameN
  cases ha : isNm a with
  | false => exact Same_no1 s A rs hA a b ha w h
  | true =>
    obtain ⟨f, rfl, hf⟩ := nm_nat ha
    cases hb : isNm b with
    | false => exact Same_no2 s A rs hA f hf b hb w h
    | true =>
      obtain ⟨t, rfl, ht⟩ := nm_nat hb
      have := Same_yes s A rs hA f t hf ht w h
      rw [same_alike (buf_apt hA _) (buf_apt hA _)] at this
      exact this
theorem SameI_gen (v : Value) (A : Sto) (B : Nat) (hA : Good A) (a b : Int) (w : World) (h : DAt w B v A) :
    Calls Try.prog 48 #[v, .int .i64 a, .int .i64 b] w fun e w' => e = .returned (.tuple #[.bool (sameN A a b).1, .int .i64 (sameN A a b).2]) ∧ Below w.heap.size w w' := by
  refine (SameI_any v A B hA a b w h).mono fun e w' ⟨h1, h2⟩ => ⟨?_, h2⟩
  rw [h1]
  unfold sameN
  cases isNm a <;> cases isNm b <;> rfl
set_option maxRecDepth 100000 in
theorem of_nil (n : Int) (w : World) : Calls Try.prog 61 #[.pointer none, .int .i64 n] w fun e w' => e = .returned (.tuple #[.pointer none, .int .i64 4]) ∧ Below w.heap.size w w' := by
  go_enter Try.func61, Try.ntmps61
  go_wp2_with fail
  go_ret2
  exact ⟨rfl, Below.refl _ _⟩
set_option maxRecDepth 100000 in
theorem Item_nil (n : Int) (w : World) : Calls Try.prog 22 #[.pointer none, .int .i64 n] w fun e w' => e = .returned (.tuple #[.agg (icells 0 (.slice none 0 0) 0 (.slice none 0 0)), .int .i64 4]) ∧ Below w.heap.size w w' := by
  go_enter Try.func22, Try.ntmps22
  go_upto_region 1 with (fail)
  have hb0 := (Below.refl w.heap.size w).alloc (Nat.le_refl _) (.cells (icells 0 (.slice none 0 0) 0 (.slice none 0 0)) 32)
  refine wp_world (fun W => Below w.heap.size w W ∧ W.heap[w.heap.size]? = some (.cells (icells 0 (.slice none 0 0) 0 (.slice none 0 0)) 32 (0, 0))) ⟨hb0, ha_new rfl⟩ ?_
  clear hb0
  rintro W ⟨hb, h1⟩
  apply wp_region_lit
  iterate 2 (refine wl_k rfl (fun K hK => ?_); go_simp; refine hK _ ?_; clear hK K)
  refine wl_ck rfl (fun K hK => ?_); go_simp; refine ⟨_, _, ⟨rfl, rfl⟩, hK _ _ ⟨_, of_nil n _, ?_⟩⟩; clear hK K; rintro e w1 ⟨rfl, hb1⟩; refine ⟨_, rfl, ?_⟩; simp only [Zq]
  replace h1 := below_look hb1 h1
  replace hb := hb.trans (hb1.mono hb.size)
  clear hb1
  go_upto_region 3 with (fail)
  apply wp_region_lit
  refine wl_val rfl (ex_build 32 _ rfl (L := []) rfl built32_0) ?_
  simp only [Zq]
  refine wl_k rfl (fun K hK => ?_); go_simp; refine hK _ ?_; clear hK K
  refine wl_putG w.heap.size (icells 0 (.slice none 0 0) 0 (.slice none 0 0)) rfl rfl 32 _ h1 info32 rfl (icells_one _ _ _ _ _ _ _ _) ?_
  rw [put_noneA]
  replace hb := below_setRow hb (g := w.heap.size) (Nat.le_refl _) (icells 0 (.slice none 0 0) 0 (.slice none 0 0))
  replace h1 := hr_new (cs := icells 0 (.slice none 0 0) 0 (.slice none 0 0)) h1
  generalize w1.setRow w.heap.size (icells 0 (.slice none 0 0) 0 (.slice none 0 0)) = w2 at *
  have RI := rowIt h1
  go_wp2_with fail
  exact bodyPost_ret (res_item rfl _ _ w.heap.size rfl h1) rfl ⟨rfl, hb⟩
set_option maxHeartbeats 2000000 in
set_option maxRecDepth 100000 in
theorem Get_nil (n : Int) (k : ByteArray) (w : World) : Calls Try.prog 37 #[.pointer none, .int .i64 n, .string k] w fun e w' => e = .returned (.tuple #[.int .i64 0, .int .i64 4]) ∧ Below w.heap.size w w' := by
  go_enter Try.func37, Try.ntmps37
  go_upto_region 1 with (fail)
  apply wp_region_lit
  iterate 2 (refine wl_k rfl (fun K hK => ?_); go_simp; refine hK _ ?_; clear hK K)
  refine wl_ck rfl (fun K hK => ?_); go_simp; refine ⟨_, _, ⟨rfl, rfl⟩, hK _ _ ⟨_, of_nil n _, ?_⟩⟩; clear hK K; rintro e w1 ⟨rfl, hb1⟩; refine ⟨_, rfl, ?_⟩; simp only [Zq]
  go_wp2_with fail
  go_ret2
  exact ⟨rfl, hb1⟩
set_option maxHeartbeats 2000000 in
set_option maxRecDepth 100000 in
theorem At_nil (n i : Int) (w : World) : Calls Try.prog 46 #[.pointer none, .int .i64 n, .int .i64 i] w fun e w' => e = .returned (.tuple #[.string ⟨#[]⟩, .int .i64 4]) ∧ Below w.heap.size w w' := by
  go_enter Try.func46, Try.ntmps46
  go_upto_region 1 with (fail)
  apply wp_region_lit
  iterate 2 (refine wl_k rfl (fun K hK => ?_); go_simp; refine hK _ ?_; clear hK K)
  refine wl_ck rfl (fun K hK => ?_); go_simp; refine ⟨_, _, ⟨rfl, rfl⟩, hK _ _ ⟨_, of_nil n _, ?_⟩⟩; clear hK K; rintro e w1 ⟨rfl, hb1⟩; refine ⟨_, rfl, ?_⟩; simp only [Zq]
  go_wp2_with fail
  go_ret2
  exact ⟨rfl, hb1⟩
set_option maxHeartbeats 2000000 in
set_option maxRecDepth 100000 in
theorem Len_nil (n : Int) (w : World) : Calls Try.prog 41 #[.pointer none, .int .i64 n] w fun e w' => e = .returned (.tuple #[.int .i64 0, .int .i64 4]) ∧ Below w.heap.size w w' := by
  go_enter Try.func41, Try.ntmps41
  go_upto_region 1 with (fail)
  apply wp_region_lit
  iterate 2 (refine wl_k rfl (fun K hK => ?_); go_simp; refine hK _ ?_; clear hK K)
  refine wl_ck rfl (fun K hK => ?_); go_simp; refine ⟨_, _, ⟨rfl, rfl⟩, hK _ _ ⟨_, of_nil n _, ?_⟩⟩; clear hK K; rintro e w1 ⟨rfl, hb1⟩; refine ⟨_, rfl, ?_⟩; simp only [Zq]
  go_wp2_with fail
  go_ret2
  exact ⟨rfl, hb1⟩
set_option maxHeartbeats 2000000 in
set_option maxRecDepth 100000 in
theorem Same_nil (n m : Int) (w : World) : Calls Try.prog 44 #[.pointer none, .int .i64 n, .int .i64 m] w fun e w' => e = .returned (.tuple #[.bool false, .int .i64 4]) ∧ Below w.heap.size w w' := by
  go_enter Try.func44, Try.ntmps44
  go_upto_region 1 with (fail)
  apply wp_region_lit
  iterate 2 (refine wl_k rfl (fun K hK => ?_); go_simp; refine hK _ ?_; clear hK K)
  refine wl_ck rfl (fun K hK => ?_); go_simp; refine ⟨_, _, ⟨rfl, rfl⟩, hK _ _ ⟨_, of_nil n _, ?_⟩⟩; clear hK K; rintro e w1 ⟨rfl, hb1⟩; refine ⟨_, rfl, ?_⟩; simp only [Zq]
  go_upto_region 2 with (fail)
  apply wp_region_lit
  iterate 2 (refine wl_k rfl (fun K hK => ?_); go_simp; refine hK _ ?_; clear hK K)
  refine wl_ck rfl (fun K hK => ?_); go_simp; refine ⟨_, _, ⟨rfl, rfl⟩, hK _ _ ⟨_, of_nil m _, ?_⟩⟩; clear hK K; rintro e w2 ⟨rfl, hb2⟩; refine ⟨_, rfl, ?_⟩; simp only [Zq]
  replace hb1 := hb1.trans (hb2.mono hb1.size)
  go_wp2_with fail
  go_ret2
  exact ⟨rfl, hb1⟩
theorem Clone_nil (w : World) : Calls Try.prog 43 #[.pointer none] w fun e w' => e = .returned (.pointer none) ∧ Below w.heap.size w w' := by
  go_enter Try.func43, Try.ntmps43
  go_wp2_with fail
  go_ret
  exact ⟨rfl, Below.refl _ _⟩
theorem Buffers_nil (w : World) : Calls Try.prog 23 #[.pointer none] w fun e w' => e = .returned (.int .i64 0) ∧ Below w.heap.size w w' := by
  go_enter Try.func23, Try.ntmps23
  go_wp2_with fail
  go_ret
  exact ⟨rfl, Below.refl _ _⟩
theorem Shared_nil (w : World) : Calls Try.prog 24 #[.pointer none] w fun e w' => e = .returned (.int .i64 0) ∧ Below w.heap.size w w' := by
  go_enter Try.func24, Try.ntmps24
  go_wp2_with fail
  go_ret
  exact ⟨rfl, Below.refl _ _⟩
set_option maxRecDepth 100000 in
theorem refused_nil (o : OpV) (w : World) : Calls Try.prog 50 #[.pointer none, .agg o.cells] w fun e w' => e = .returned (.int .i64 4) ∧ Below w.heap.size w w' := by
  go_enter Try.func50, Try.ntmps50
  go_wp2_with fail
  go_ret
  exact ⟨rfl, (Below.refl w.heap.size w).alloc (Nat.le_refl _) _⟩
set_option maxRecDepth 100000 in
theorem Do_nil (o : OpV) (w : World) : Calls Try.prog 19 #[.pointer none, .agg o.cells] w fun e w' => e = .returned (.int .i64 4) ∧ Below w.heap.size w w' := by
  go_enter Try.func19, Try.ntmps19
  go_upto_region 1 with (fail)
  refine wp_world (fun W => Below w.heap.size w W ∧ W.heap[w.heap.size]? = some (.cells o.cells 39 (0, 0))) ⟨(Below.refl w.heap.size w).alloc (Nat.le_refl _) _, ha_new rfl⟩ ?_
  rintro W ⟨hb, g1⟩
  apply wp_region_lit
  refine wl_k rfl (fun K hK => ?_); go_simp; refine hK _ ?_; clear hK K
  ((with_reducible apply wl_rowG); exact rfl; exact rfl; exact rowOp g1); try simp only [Zy]
  refine wl_ck rfl (fun K hK => ?_); go_simp; refine ⟨_, _, ⟨rfl, rfl⟩, hK _ _ ⟨_, refused_nil o _, ?_⟩⟩; clear hK K; rintro e w1 ⟨rfl, hb1⟩; refine ⟨_, rfl, ?_⟩; simp only [Zq]
  replace hb := hb.trans (hb1.mono hb.size)
  refine wl_k rfl (fun K hK => ?_); go_simp; refine hK _ ?_; clear hK K
  go_wp2_with fail
  go_ret
  exact ⟨rfl, hb⟩
end Go.Proofs.Ytbhdgeoljlhmcaa
