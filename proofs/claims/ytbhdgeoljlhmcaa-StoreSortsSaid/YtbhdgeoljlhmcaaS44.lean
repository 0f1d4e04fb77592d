/- Long lists of texts; a dictionary with one key that is kept (plain). -/
import Derived.Test.YtbhdgeoljlhmcaaS43
import Derived.Test.YtbhdgeoljlhmcaaS42
import Derived.Outline
namespace Go.Proofs.Ytbhdgeoljlhmcaa
open Go.RowKit Go.Proofs.Ytbhdgeoljlhmcaa.Nm Go.Proofs.Ytbhdgeoljlhmcaa.St
set_option linter.unusedSimpArgs false
set_option maxHeartbeats 2000000 in
set_option maxRecDepth 100000 in
theorem long_any (A : Option Addr) (n c : Nat) (l : List ByteArray) (w : World) (h : StrAt w A n c l) :
    Calls Try.prog 25 #[.slice A n c] w fun e w' => ∃ b, e = .returned (.bool b) ∧ (b = false → n ≤ 300 ∧ ∀ x ∈ l, x.size ≤ 8000) ∧ Below w.heap.size w w' := by
  have HO := Lib.hid h
  clear h
  go_enter Try.func25, Try.ntmps25
  go_wp2_with fail
  go_loopw [3, 4] (fun m i wr => ∃ (j k : Nat), j ≤ n ∧ j ≤ 300 ∧ k ≤ 8000 ∧ Hid (∀ x ∈ l.take j, x.size ≤ 8000) ∧ i = .int .i64 (j : Int) ∧ m = .int .i64 (k : Int) ∧ Below w.heap.size w wr) (fun _ i _ => n - (intOf i).toNat)
  case atStart => exact ⟨0, 0, by omega, by omega, by omega, Lib.hid (by simp), rfl, rfl, Below.refl _ _⟩
  case round =>
    obtain ⟨j, k, hj, hj2, hk, HX, rfl, rfl, hb⟩ := hrel
    by_cases hlt : j < n
    · have hltI : (j : Int) < (n : Int) := by omega
      by_cases h200 : j = 300
      · have hd : ((j : Int) == 300) = true := by simp; omega
        go_wp2_with fail
        go_ret
        exact ⟨_, rfl, by simp, hb⟩
      · have hd : ((j : Int) == 300) = false := by simp; omega
        obtain ⟨o, ho⟩ : ∃ o, l[j]? = some o := ⟨_, List.getElem?_eq_getElem (by rw [HO.out.1]; exact hlt)⟩
        obtain ⟨ad, rfl, hca⟩ := HO.out.cell ho
        have hkey := below_cell hb hca
        have HOJ := Lib.hid ho
        have hwr : IntKind.i64.wrap (8000 - (k : Int)) = 8000 - (k : Int) := wrap_small _ (by omega) (by omega)
        clear ho hca
        by_cases hgt : 8000 - (k : Int) < (o.size : Int)
        · go_wp2_with fail
          go_ret
          exact ⟨_, rfl, by simp, hb⟩
        · have hwr2 : IntKind.i64.wrap ((k : Int) + (o.size : Int)) = ((k + o.size : Nat) : Int) := by rw [wrap_small _ (by omega) (by omega)]; omega
          have HX2 : Hid (∀ x ∈ l.take (j + 1), x.size ≤ 8000) := Lib.hid (fun x hx => by
            rw [List.take_add_one, HOJ.out] at hx
            simp only [Option.toList_some, List.mem_append, List.mem_singleton] at hx
            rcases hx with hx | rfl
            · exact HX.out x hx
            · omega)
          go_wp2_with fail
          go_roundw
          case rel => exact ⟨j + 1, k + o.size, by omega, by omega, by omega, HX2, by go_num, by first | rfl | (rw [hwr2]) | (congr 1), hb⟩
          case measure => simp [intOf]; omega
    · obtain rfl : j = n := by omega
      have HX2 : Hid (∀ x ∈ l, x.size ≤ 8000) := Lib.hid (fun x hx => HX.out x (by rw [List.take_of_length_le (by rw [HO.out.1]; exact Nat.le_refl _)]; exact hx))
      go_wp2_with fail
      go_ret
      exact ⟨_, rfl, fun _ => ⟨by omega, HX2.out⟩, hb⟩
theorem wl_valH {ops : Array Oper} {rest : List Oper} {o : Oper} {a : Act} {w : World} {Q : Exit → Act → World → Prop} {v : Value} (hg : Region.wanted o (yielded ops a.tmps) = true) (hv : (execOp a.eval o).run Try.prog w = .ok (.value v) w) (h : wpList Try.prog ops Q rest (a.put o.dst v) w) : wpList Try.prog ops Q (o :: rest) a w :=
  wl_k hg (fun _ hK => ⟨v, hv, hK _ h⟩)
theorem form8 (n : Int) : formS ⟨8, 0, 0, 0, n, ⟨#[]⟩⟩ = true := by
  unfold formS
  simp only [show useS 8 = some ⟨false, true, false, true, false, 0⟩ from rfl, show useG 8 = ⟨false, true, false, true, false, 0⟩ from rfl, nmOk, isNm]
  simp
theorem form9 (f n : Int) (hf : 0 ≤ f) (hf8 : f < 8) (k : ByteArray) : formS ⟨9, f, 0, 0, n, k⟩ = true := by
  unfold formS
  simp only [show useS 9 = some ⟨true, false, false, true, true, 2⟩ from rfl, show useG 9 = ⟨true, false, false, true, true, 2⟩ from rfl, nmOk, isNm]
  simp [hf, hf8]
theorem form10 (f : Int) (hf : 0 ≤ f) (hf8 : f < 8) (k : ByteArray) : formS ⟨10, f, 0, 0, 0, k⟩ = true := by
  unfold formS
  simp only [show useS 10 = some ⟨true, false, false, false, true, 2⟩ from rfl, show useG 10 = ⟨true, false, false, false, true, 2⟩ from rfl, nmOk, isNm]
  simp [hf, hf8]
theorem ref8 (b : Buf) {n : Int} (h0 : 0 ≤ n) (h1 : n ≤ 2147483647) : refB b ⟨8, 0, 0, 0, n, ⟨#[]⟩⟩ = 0 := by
  unfold refB
  simp only [form8, show useG 8 = ⟨false, true, false, true, false, 0⟩ from rfl]
  simp
  omega
theorem ref9 {b : Buf} (hk : b.kd = 2) (hc : cn b.t < 100) {f n : Int} (hf : 0 ≤ f) (hf8 : f < 8) {k : ByteArray} (hks : k.size ≤ 24) : refB b ⟨9, f, 0, 0, n, k⟩ = 0 := by
  unfold refB
  simp only [form9 f n hf hf8, show useG 9 = ⟨true, false, false, true, true, 2⟩ from rfl, hk]
  simp
  omega
theorem ref10 {b : Buf} (hk : b.kd = 2) {f : Int} (hf : 0 ≤ f) (hf8 : f < 8) {k : ByteArray} (hks : k.size ≤ 24) (hh : ¬ fnd b.seed b.t k < 0) : refB b ⟨10, f, 0, 0, 0, k⟩ = 0 := by
  unfold refB
  simp only [form10 f hf hf8, show useG 10 = ⟨true, false, false, false, true, 2⟩ from rfl, hk]
  simp
  omega
/-- a store whose first name is a dictionary with a key -/
structure Dic (A : Sto) (k : ByteArray) (v : Int) (c m : Nat) : Prop where
  good : Good A
  kd : (A.buf 0).kd = 2
  has : Has (A.buf 0).t k v
  cnt : cn (A.buf 0).t ≤ c
  made : A.bufs.length ≤ m ∧ 0 ≤ A.shared ∧ A.shared ≤ (m : Int)
theorem Dic.goodB {A : Sto} {k : ByteArray} {v : Int} {c m : Nat} (h : Dic A k v c m) : GoodB (A.buf 0) := h.good.buf (by decide) (by decide) (by rw [h.kd]; decide)
theorem doA_made {A : Sto} {m : Nat} (h : A.bufs.length ≤ m ∧ 0 ≤ A.shared ∧ A.shared ≤ (m : Int)) (o : OpV) : (doA A o).bufs.length ≤ m + 1 ∧ 0 ≤ (doA A o).shared ∧ (doA A o).shared ≤ ((m + 1 : Nat) : Int) := by
  have := doA_bound A o
  omega
theorem Dic.more {A : Sto} {k : ByteArray} {v : Int} {c c' m : Nat} (h : Dic A k v c m) (hc : c ≤ c') : Dic A k v c' m := ⟨h.good, h.kd, h.has, Nat.le_trans h.cnt hc, h.made⟩
/-- another key put in -/
theorem Dic.set {A : Sto} {k : ByteArray} {v : Int} {c m : Nat} (h : Dic A k v c m) (hc : c < 100) {k' : ByteArray} (hne : k' ≠ k) (hs : k'.size ≤ 24) (n : Int) :
    refA A ⟨9, 0, 0, 0, n, k'⟩ = 0 ∧ Dic (doA A ⟨9, 0, 0, 0, n, k'⟩) k v (c + 1) (m + 1) ∧ Has ((doA A ⟨9, 0, 0, 0, n, k'⟩).buf 0).t k' n := by
  have hr : refB (A.buf 0) ⟨9, 0, 0, 0, n, k'⟩ = 0 := ref9 h.kd (by have := h.cnt; omega) (by decide) (by decide) hs
  have hb : (doA A ⟨9, 0, 0, 0, n, k'⟩).buf 0 = newB (A.buf 0) ⟨9, 0, 0, 0, n, k'⟩ := by
    rw [do_buf h.good _ (by decide) (by decide), if_pos ⟨hr, rfl⟩]
  obtain ⟨h1, h2, h3, h4, h5, h6⟩ := new_set h.goodB h.kd (o := ⟨9, 0, 0, 0, n, k'⟩) rfl hr
  refine ⟨hr, ⟨good_do h.good _, by rw [hb]; exact h1, by rw [hb, h6]; exact Or.inr ⟨hne.symm, h.has⟩, by rw [hb, h5]; have := h.cnt; split <;> omega, doA_made h.made _⟩, by rw [hb, h6]; exact Or.inl ⟨rfl, rfl⟩⟩
/-- another key taken out -/
theorem Dic.del {A : Sto} {k : ByteArray} {v : Int} {c m : Nat} (h : Dic A k v c m) {k' : ByteArray} {v' : Int} (hne : k' ≠ k) (hs : k'.size ≤ 24) (hh : Has (A.buf 0).t k' v') :
    refA A ⟨10, 0, 0, 0, 0, k'⟩ = 0 ∧ Dic (doA A ⟨10, 0, 0, 0, 0, k'⟩) k v c (m + 1) := by
  have hw := (h.goodB.dict h.kd).2.2.2.1
  have hr : refB (A.buf 0) ⟨10, 0, 0, 0, 0, k'⟩ = 0 := ref10 h.kd (by decide) (by decide) hs (fun h9 => (fnd_iff hw k').1 h9 v' hh)
  have hb : (doA A ⟨10, 0, 0, 0, 0, k'⟩).buf 0 = newB (A.buf 0) ⟨10, 0, 0, 0, 0, k'⟩ := by
    rw [do_buf h.good _ (by decide) (by decide), if_pos ⟨hr, rfl⟩]
  obtain ⟨h1, h2, h3, h4, h5, h6⟩ := new_del h.goodB h.kd (o := ⟨10, 0, 0, 0, 0, k'⟩) rfl hr
  exact ⟨hr, ⟨good_do h.good _, by rw [hb]; exact h1, by rw [hb, h6]; exact ⟨hne.symm, h.has⟩, by rw [hb]; have := h.cnt; omega, doA_made h.made _⟩⟩
/-- the dictionary made, and its key put in -/
theorem dic_start {N n : Int} (h0 : 0 ≤ N) (h1 : N ≤ 2147483647) {k : ByteArray} (hs : k.size ≤ 24) :
    refA newA ⟨8, 0, 0, 0, N, ⟨#[]⟩⟩ = 0 ∧ Good (doA newA ⟨8, 0, 0, 0, N, ⟨#[]⟩⟩) ∧ refA (doA newA ⟨8, 0, 0, 0, N, ⟨#[]⟩⟩) ⟨9, 0, 0, 0, n, k⟩ = 0 ∧ Dic (doA (doA newA ⟨8, 0, 0, 0, N, ⟨#[]⟩⟩) ⟨9, 0, 0, 0, n, k⟩) k n 1 2 := by
  have hr : refA newA ⟨8, 0, 0, 0, N, ⟨#[]⟩⟩ = 0 := ref8 (newA.buf 0) h0 h1
  have hg := good_do good_new0 ⟨8, 0, 0, 0, N, ⟨#[]⟩⟩
  have hb : (doA newA ⟨8, 0, 0, 0, N, ⟨#[]⟩⟩).buf 0 = ⟨2, [], N, List.replicate 4 none⟩ := by
    rw [do_buf good_new0 _ (by decide) (by decide), if_pos ⟨hr, rfl⟩]; rfl
  obtain ⟨A1, hA1⟩ : ∃ A1, A1 = doA newA ⟨8, 0, 0, 0, N, ⟨#[]⟩⟩ := ⟨_, rfl⟩
  have hm := doA_made (A := newA) (m := 0) ⟨Nat.le_refl _, Int.le_refl _, Int.le_refl _⟩ ⟨8, 0, 0, 0, N, ⟨#[]⟩⟩
  rw [← hA1] at hg hb hm ⊢
  have hr2 : refB (A1.buf 0) ⟨9, 0, 0, 0, n, k⟩ = 0 := ref9 (by rw [hb]) (by rw [hb]; show cn (List.replicate 4 none) < 100; rw [cn_none]; decide) (by decide) (by decide) hs
  have hb2 : (doA A1 ⟨9, 0, 0, 0, n, k⟩).buf 0 = newB (A1.buf 0) ⟨9, 0, 0, 0, n, k⟩ := by
    rw [do_buf hg _ (by decide) (by decide), if_pos ⟨hr2, rfl⟩]
  have hGB : GoodB (A1.buf 0) := hg.buf (by decide) (by decide) (by rw [hb]; exact (by decide : (2 : Int) ≠ 0))
  obtain ⟨g1, g2, g3, g4, g5, g6⟩ := new_set hGB (by rw [hb]) (o := ⟨9, 0, 0, 0, n, k⟩) rfl hr2
  refine ⟨hr, hg, hr2, good_do hg _, by rw [hb2]; exact g1, by rw [hb2, g6]; exact Or.inl ⟨rfl, rfl⟩, ?_, doA_made hm _⟩
  rw [hb2, g5, show cn (A1.buf 0).t = 0 by rw [hb]; exact cn_none 4]
  split <;> omega
/-- the value of the key -/
theorem Dic.get {A : Sto} {k : ByteArray} {v : Int} {c m : Nat} (h : Dic A k v c m) : getA (A.buf 0) k = (v, 0) := by
  have hw := (h.goodB.dict h.kd).2.2.2.1
  obtain ⟨i, hi, hp⟩ := h.has
  unfold getA
  rw [if_pos h.kd, find_some (HH (A.buf 0).seed) hw hi hp]
  simp only
  rw [hp]; rfl
end Go.Proofs.Ytbhdgeoljlhmcaa
