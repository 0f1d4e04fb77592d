/- Rows of texts cut and put together; two lists merged, a list sorted, by the program. Two lists merged, a list sorted, by the program. What an operation does, by the program: facts for all kinds. What an operation does, by the program: append. What an operation does, by the program: new buffers. What an operation does, by the program: copy, slice. S24, S25 in one text. What an operation does, by the program: put, sort. -/
import Derived.Outline
import Derived.DataElems
import Derived.Test.YtbhdgeoljlhmcaaQB7
import Derived.Test.YtbhdgeoljlhmcaaQB8
namespace Go.Proofs.Ytbhdgeoljlhmcaa
open Go.RowKit Go.Proofs.Ytbhdgeoljlhmcaa.Nm Go.Proofs.Ytbhdgeoljlhmcaa.St
set_option linter.unusedSimpArgs false
def slLen : Value → Nat
  | .slice _ m _ => m
  | _ => 0
theorem el29 : Try.prog.elem 29 = 9 := by kernel_rfl
theorem u29e : Try.prog.underlying 29 = some (.slice (Try.prog.elem 29)) := by rw [el29]; exact u29
theorem sz9 (w : World) : (sizeOf 9).run Try.prog w = .ok 1 w := by kernel_rfl
theorem sz29 (w : World) : (sizeOf (Try.prog.elem 29)).run Try.prog w = .ok 1 w := by rw [el29]; exact sz9 w
theorem run_ixS (ad : Addr) (n cap j : Nat) (hj : j < n) (w : World) : (Instr.indexAt 29 (.slice (some ad) n cap) (.int .i64 (j : Int))).run Try.prog w = .ok (.pointer (some (ad.add j))) w := by
  unfold Instr.indexAt
  simp [asIntOf, run_underlying u29, Result.andThen, hj]
theorem ex_ixS {ev : Operand → Value} {op : Oper} {w : World} (x y : Operand) (ho : op.op = .indexAddr 29 x y) {ad : Addr} {n cap j : Nat} (hx : ev x = .slice (some ad) n cap) (hy : ev y = .int .i64 (j : Int)) (hj : j < n) :
    (execOp ev op).run Try.prog w = .ok (.value (.pointer (some (ad.add j)))) w := by
  unfold execOp
  simp [ho, hx, hy, run_ixS ad n cap j hj w, Result.andThen]
theorem ex_slL {ev : Operand → Value} {op : Oper} {w : World} (x y : Operand) (ho : op.op = .slice 29 x (some y) none none) {A : Option Addr} {n cap lo : Nat} (hx : ev x = .slice A n cap) (hy : ev y = .int .i64 (lo : Int)) (hl : lo ≤ n) :
    (execOp ev op).run Try.prog w = .ok (.value (sliced A lo n cap 1)) w := by
  have h := run_slice_l (P := Try.prog) w 29 A n cap u29e .i64 (lo : Int) (by omega) (by omega)
  unfold execOp
  rw [sz29] at h
  simp [ho, hx, hy, run_sliceAt_slice w 29 _ _ _ _ u29e, h, Result.andThen]
theorem ex_slH {ev : Operand → Value} {op : Oper} {w : World} (x y : Operand) (ho : op.op = .slice 29 x none (some y) none) {A : Option Addr} {n cap hi : Nat} (hx : ev x = .slice A n cap) (hy : ev y = .int .i64 (hi : Int)) (hl : hi ≤ cap) :
    (execOp ev op).run Try.prog w = .ok (.value (sliced A 0 hi cap 1)) w := by
  have h := run_slice_h (P := Try.prog) w 29 A n cap u29e .i64 (hi : Int) (by omega) (by omega)
  unfold execOp
  rw [sz29] at h
  simp [ho, hx, hy, run_sliceAt_slice w 29 _ _ _ _ u29e, h, Result.andThen]
theorem ex_slLH {ev : Operand → Value} {op : Oper} {w : World} (x y z : Operand) (ho : op.op = .slice 29 x (some y) (some z) none) {A : Option Addr} {n cap lo hi : Nat} (hx : ev x = .slice A n cap) (hy : ev y = .int .i64 (lo : Int)) (hz : ev z = .int .i64 (hi : Int)) (hl : lo ≤ hi) (hh : hi ≤ cap) :
    (execOp ev op).run Try.prog w = .ok (.value (sliced A lo hi cap 1)) w := by
  have h := run_slice_lh (P := Try.prog) w 29 A n cap u29e .i64 .i64 (lo : Int) (hi : Int) (by omega) (by omega) (by omega)
  unfold execOp
  rw [sz29] at h
  simp [ho, hx, hy, hz, run_sliceAt_slice w 29 _ _ _ _ u29e, h, Result.andThen]
theorem StrAt.cut {w : World} {A : Option Addr} {n cap lo hi : Nat} {l : List ByteArray} (h : StrAt w A n cap l) (hlo : lo ≤ hi) (hh : hi ≤ n) (hc : n ≤ cap) :
    ∃ A', sliced A lo hi cap 1 = .slice A' (hi - lo) (cap - lo) ∧ StrAt w A' (hi - lo) (cap - lo) ((l.take hi).drop lo) := by
  have hlen : ((l.take hi).drop lo).length = hi - lo := by rw [List.length_drop, List.length_take, h.1]; omega
  unfold sliced
  refine ⟨_, rfl, hlen, ?_⟩
  rcases h.2 with ⟨rfl, rfl, rfl⟩ | ⟨ad, rfl, hp⟩
  · left; exact ⟨by split <;> rfl, by omega, by omega⟩
  · right
    by_cases e : cap = lo
    · rw [if_pos e]
      refine ⟨ad, rfl, fun j u hj => ?_⟩
      have := (List.getElem?_eq_some_iff.1 hj).1
      rw [strs_length, hlen] at this; omega
    · rw [if_neg e]
      refine ⟨_, rfl, fun j u hj => ?_⟩
      have hl := (List.getElem?_eq_some_iff.1 hj).1
      rw [strs_length, hlen] at hl
      rw [Addr.add_add, Nat.mul_one]
      refine hp _ _ ?_
      unfold strs at hj ⊢
      rw [List.getElem?_map, List.getElem?_drop, List.getElem?_take_of_lt (by omega)] at hj
      rw [List.getElem?_map]; exact hj
theorem StrAt.cell {w : World} {A : Option Addr} {n cap : Nat} {l : List ByteArray} (h : StrAt w A n cap l) {j : Nat} {x : ByteArray} (hj : l[j]? = some x) : ∃ ad, A = some ad ∧ w.cell? (ad.add j) = some (.string x) := by
  have hl := (List.getElem?_eq_some_iff.1 hj).1
  rcases h.2 with ⟨rfl, rfl, rfl⟩ | ⟨ad, rfl, hp⟩
  · rw [h.1] at hl; omega
  · exact ⟨ad, rfl, hp j _ (by unfold strs; rw [List.getElem?_map, hj]; rfl)⟩
theorem run_bs29_1 (k : ByteArray) (w : World) : (Instr.buildSlice 29 1 #[(0, .string k)]).run Try.prog w = .ok (.slice (some ⟨w.heap.size, 0, none⟩) 1 1) (w.alloc (.cells #[.string k] 9)) := by kernel_rfl
theorem ex_bs29_1 {ev : Operand → Value} {o : Oper} {w : World} (x : Operand) (ho : o.op = .buildSlice 29 1 #[(0, x)]) {k : ByteArray} (hx : ev x = .string k) :
    (execOp ev o).run Try.prog w = .ok (.value (.slice (some ⟨w.heap.size, 0, none⟩) 1 1)) (w.alloc (.cells #[.string k] 9)) := by
  unfold execOp
  simp [ho, hx, run_bs29_1 k w, Result.andThen]
/-- texts appended to a row of the call's own -/
theorem run_app29 {w : World} {B n m c : Nat} {v : Value} {l l2 : List ByteArray} {A : Option Addr} (ty : TypeId) (ho : w.ownsRow B 9 1 v n (strs l)) (hs : StrAt w A m c l2) (hB : B ≤ w.heap.size) (h1 : n ≤ 1000000) (h2 : m ≤ 1000000) :
    ∃ v' w', (Builtin.append_ #[29, 29] ty #[v, .slice A m c]).run Try.prog w = .ok v' w' ∧ w'.ownsRow B 9 1 v' (n + m) (strs (l ++ l2)) ∧ w.grownBy w' v.ownBlock ∧ (v'.ownBlock = v.ownBlock ∨ v'.ownBlock = some w.heap.size) := by
  obtain ⟨i0, hi, hz0, hz1, hz2⟩ := info_parts info9
  obtain ⟨hl, hv⟩ := hs
  rcases hv with ⟨rfl, rfl, rfl⟩ | ⟨ad, rfl, hp⟩
  · obtain rfl := List.length_eq_zero_iff.1 hl
    exact ⟨v, w, run_append_owned_none w B 29 ty 9 i0 1 u29 hi v n _ ho, by simpa using ho, ⟨rfl, rfl, rfl, Nat.le_refl _, fun _ _ _ => rfl⟩, Or.inl rfl⟩
  · obtain ⟨v', w', hr, h3, h4, _, h5⟩ := run_append_own_at (P := Try.prog) w B 29 ty 9 i0 _ 1 16 u29 hi hz0 hz1 hz2 rfl (by decide) v n (strs l) ho ad m c (strs l2) (by rw [strs_length, hl, Nat.mul_one]) hp (strs_one _) (by unfold maxLen; omega) (by omega) hB
    exact ⟨v', w', hr, by unfold strs at *; rw [List.map_append]; exact h3, h4, h5⟩
theorem ex_app29 {ev : Operand → Value} {op : Oper} {w w' : World} {v v' s : Value} (x y : Operand) (ho : op.op = .call { callee := .builtin .append, args := #[x, y], argTypes := #[29, 29] }) (hx : ev x = v) (hy : ev y = s)
    (hr : (Builtin.append_ #[29, 29] op.type #[v, s]).run Try.prog w = .ok v' w') : (execOp ev op).run Try.prog w = .ok (.value v') w' := by
  unfold execOp
  simp only [ho, resolve, invoke, builtin, Sem.run_bind, Sem.run_pure, Result.andThen_ok, List.map_toArray, List.map_cons, List.map_nil, hx, hy, hr]
theorem strAt_one {w : World} {q : Nat} {k : ByteArray} (h : w.heap[q]? = some (.cells #[.string k] 9 (0, 0))) : StrAt w (some ⟨q, 0, none⟩) 1 1 [k] :=
  ⟨rfl, Or.inr ⟨_, rfl, fun j u hj => by
    rcases j with _ | j
    · simp [strs] at hj; subst hj
      rw [show ((⟨q, 0, none⟩ : Addr).add 0) = ⟨q, 0, none⟩ by rw [Addr.add_mid], cell_of_row _ _ _ _ _ _ h]; rfl
    · simp [strs] at hj⟩⟩
/-- one text pushed behind a row of the call's own: the new block of the text, then append -/
theorem run_push29 {w : World} {B n : Nat} {v : Value} {l : List ByteArray} (k : ByteArray) (ty : TypeId) (ho : w.ownsRow B 9 1 v n (strs l)) (hB : B ≤ w.heap.size) (h1 : n ≤ 1000000) :
    ∃ v' w', (Builtin.append_ #[29, 29] ty #[v, .slice (some ⟨w.heap.size, 0, none⟩) 1 1]).run Try.prog (w.alloc (.cells #[.string k] 9)) = .ok v' w' ∧ w'.ownsRow B 9 1 v' (n + 1) (strs (l ++ [k])) ∧ (w.alloc (.cells #[.string k] 9)).grownBy w' v.ownBlock ∧ (v'.ownBlock = v.ownBlock ∨ v'.ownBlock = some (w.heap.size + 1)) := by
  have hb := (Below.refl w.heap.size w).alloc (Nat.le_refl _) (.cells #[.string k] 9)
  obtain ⟨v', w', h2, h3, h4, h5⟩ := run_app29 ty (own_below ho hb) (strAt_one (ha_new rfl)) (by have := hb.size; omega) h1 (show 1 ≤ 1000000 by omega)
  refine ⟨v', w', h2, h3, h4, ?_⟩
  have e : (w.alloc (.cells #[.string k] 9)).heap.size = w.heap.size + 1 := by simp
  rwa [e] at h5
set_option maxHeartbeats 4000000 in
set_option maxRecDepth 100000 in
theorem merge_any (A1 A2 : Option Addr) (n1 n2 c1 c2 : Nat) (l1 l2 : List ByteArray) (hn1 : n1 ≤ 100000) (hn2 : n2 ≤ 100000) (hc1 : n1 ≤ c1) (hc2 : n2 ≤ c2) (w : World) (h1 : StrAt w A1 n1 c1 l1) (h2 : StrAt w A2 n2 c2 l2) :
    Calls Try.prog 62 #[.slice A1 n1 c1, .slice A2 n2 c2] w fun e w' => ∃ v', e = .returned v' ∧ w'.ownsRow w.heap.size 9 1 v' (n1 + n2) (strs (mergeL l1 l2)) ∧ Below w.heap.size w w' := by
  have H1 := Lib.hid h1
  have H2 := Lib.hid h2
  clear h1 h2
  go_enter Try.func62, Try.ntmps62
  go_wp2_with fail
  go_loopw [0, 1, 5] (fun av bv ov wr => ∃ (B1 B2 : Option Addr) (m1 m2 d1 d2 : Nat) (x1 x2 o : List ByteArray), av = .slice B1 m1 d1 ∧ bv = .slice B2 m2 d2 ∧ m1 ≤ n1 ∧ m2 ≤ n2 ∧ m1 ≤ d1 ∧ m2 ≤ d2 ∧ Hid (StrAt w B1 m1 d1 x1) ∧ Hid (StrAt w B2 m2 d2 x2) ∧
    Hid (mergeL l1 l2 = o ++ mergeL x1 x2) ∧ Hid (o.length + m1 + m2 = n1 + n2) ∧ Hid (wr.ownsRow w.heap.size 9 1 ov o.length (strs o)) ∧ Hid (Below w.heap.size w wr)) (fun av bv _ _ => slLen av + slLen bv)
  case atStart => exact ⟨A1, A2, n1, n2, c1, c2, l1, l2, [], rfl, rfl, Nat.le_refl _, Nat.le_refl _, hc1, hc2, H1, H2, Lib.hid rfl, Lib.hid (by simp), Lib.hid ⟨rfl, Or.inl ⟨rfl, rfl⟩⟩, Lib.hid (Below.refl _ _)⟩
  case round =>
    clear H1 H2
    obtain ⟨B1, B2, m1, m2, d1, d2, x1, x2, o, rfl, rfl, hm1, hm2, hd1, hd2, H1, H2, HM, HL, HO, HB⟩ := hrel
    have HB' := Lib.hid HB.out.size
    by_cases hz : m1 = 0 ∨ m2 = 0
    · have HF : Hid (mergeL l1 l2 = (o ++ x1) ++ x2) := Lib.hid (by
        rw [HM.out]
        rcases hz with hz | hz
        · have := H1.out.1; rw [hz] at this; obtain rfl := List.length_eq_zero_iff.1 this; simp [mergeL]
        · have := H2.out.1; rw [hz] at this; obtain rfl := List.length_eq_zero_iff.1 this; cases x1 <;> simp [mergeL])
      obtain ⟨v1, w1, hr1, ho1, hg1, -⟩ := run_app29 29 HO.out (H1.out.below HB.out) HB'.out (show o.length ≤ 1000000 by have := HL.out; omega) (show m1 ≤ 1000000 by omega)
      have hb1 := HB.out.grown hg1 HB'.out (fun q hq => (HO.out.lt q hq).1)
      obtain ⟨v2, w2, hr2, ho2, hg2, -⟩ := run_app29 29 ho1 (H2.out.below hb1) hb1.size (show o.length + m1 ≤ 1000000 by have := HL.out; omega) (show m2 ≤ 1000000 by omega)
      have hb2 := hb1.grown hg2 hb1.size (fun q hq => (ho1.lt q hq).1)
      have HR1 := Lib.hid hr1
      have HR2 := Lib.hid hr2
      have HO2 := Lib.hid ho2
      have HB2 := Lib.hid hb2
      clear hr1 hr2 ho1 ho2 hg1 hg2 hb1 hb2 HO HM H1 H2 HB HB'
      have hex : (m1 = 0) ∨ (m2 = 0 ∧ (0 : Int) < m1) := by omega
      rcases hex with rfl | ⟨rfl, hpos⟩
      all_goals
        go_upto_region 6 with (fail)
        apply wp_region_lit
        iterate 2 (refine wl_k rfl (fun K hK => ?_); go_simp; refine hK _ ?_; clear hK K)
        refine wl_w rfl (ex_app29 _ _ rfl rfl rfl HR1.out) ?_
        simp only [Zq]
        go_upto_region 7 with (fail)
        apply wp_region_lit
        iterate 2 (refine wl_k rfl (fun K hK => ?_); go_simp; refine hK _ ?_; clear hK K)
        refine wl_w rfl (ex_app29 _ _ rfl rfl rfl HR2.out) ?_
        simp only [Zq]
        go_wp2_with fail
        go_ret
        refine ⟨_, rfl, ?_, HB2.out⟩
        rw [← HL.out, HF.out]
        exact HO2.out
    · obtain ⟨a, t1, rfl⟩ : ∃ a t1, x1 = a :: t1 := by
        cases x1 with
        | nil => have := H1.out.1; simp at this; omega
        | cons a t => exact ⟨a, t, rfl⟩
      obtain ⟨b, t2, rfl⟩ : ∃ b t2, x2 = b :: t2 := by
        cases x2 with
        | nil => have := H2.out.1; simp at this; omega
        | cons a t => exact ⟨a, t, rfl⟩
      obtain ⟨ad1, rfl, hca⟩ := H1.out.cell (j := 0) (x := a) rfl
      obtain ⟨ad2, rfl, hcb⟩ := H2.out.cell (j := 0) (x := b) rfl
      have hp1 : (0 : Int) < m1 := by omega
      have hp2 : (0 : Int) < m2 := by omega
      have hq1 : 0 < m1 := by omega
      have hq2 : 0 < m2 := by omega
      have HCA := Lib.hid hca
      have HCB := Lib.hid hcb
      clear hca hcb
      go_upto_region 3 with (fail)
      refine wp_region_held_drew (S := Below w.heap.size w) mixed HB.out.drew (fun hS => ?_)
      refine hk3 (i := 0) rfl (by kernel_rfl) Zh hS rfl (fun K hK => ?_); go_simp; refine hK _ ?_; clear hK K; try simp only [Zq]
      (refine hv3 (i := 1) rfl (by kernel_rfl) Zg hS rfl (fun w' _ => ex_ixS (j := 0) _ _ rfl rfl rfl hq2) ?_; try simp only [Zq])
      (refine hv3 (i := 2) rfl (by kernel_rfl) Zg hS rfl (fun w' hw' => ex_one rfl (one9 (below_cell hw' HCB.out))) ?_; try simp only [Zq])
      refine hk3 (i := 3) rfl (by kernel_rfl) Zh hS rfl (fun K hK => ?_); go_simp; refine hK _ ?_; clear hK K; try simp only [Zq]
      (refine hv3 (i := 4) rfl (by kernel_rfl) Zg hS rfl (fun w' _ => ex_ixS (j := 0) _ _ rfl rfl rfl hq1) ?_; try simp only [Zq])
      (refine hv3 (i := 5) rfl (by kernel_rfl) Zg hS rfl (fun w' hw' => ex_one rfl (one9 (below_cell hw' HCA.out))) ?_; try simp only [Zq])
      refine hk3 (i := 6) rfl (by kernel_rfl) Zh hS rfl (fun K hK => ?_); go_simp; refine hK _ ?_; clear hK K; try simp only [Zq]
      refine wpAnyH_done (by kernel_rfl) ?_ _
      replace HO := Lib.hid (own_below HO.out (Below.refl _ wr).drew)
      replace HB' : Hid (w.heap.size ≤ wr.drew.heap.size) := Lib.hid HB'.out
      replace HB := Lib.hid hS
      clear hS
      generalize wr.drew = wr at *
      obtain ⟨q, hq⟩ : ∃ q, q = ltB b a := ⟨_, rfl⟩
      have HQ := Lib.hid hq
      rw [show Op.bytesLess b.toList a.toList = q from hq.symm]
      clear hq hz
      cases q with
      | true =>
        obtain ⟨B2', hB2', hcut⟩ := H2.out.cut (lo := 1) (hi := m2) (by omega) (Nat.le_refl _) hd2
        rw [List.take_of_length_le (by rw [H2.out.1]; exact Nat.le_refl _), List.drop_one, List.tail_cons] at hcut
        have HC2 := Lib.hid hcut
        clear hcut
        go_upto_region 4 with (fail)
        refine wp_region_held_drew (S := Below w.heap.size w) mixed HB.out.drew (fun hS => ?_)
        refine hk3 (i := 0) rfl (by kernel_rfl) Zh hS rfl (fun K hK => ?_); go_simp; refine hK _ ?_; clear hK K; try simp only [Zq]
        refine hk3 (i := 1) rfl (by kernel_rfl) Zh hS rfl (fun K hK => ?_); go_simp; refine hK _ ?_; clear hK K; try simp only [Zq]
        (refine hv3 (i := 2) rfl (by kernel_rfl) Zg hS rfl (fun w' _ => ex_ixS (j := 0) _ _ rfl rfl rfl hq2) ?_; try simp only [Zq])
        (refine hv3 (i := 3) rfl (by kernel_rfl) Zg hS rfl (fun w' hw' => ex_one rfl (one9 (below_cell hw' HCB.out))) ?_; try simp only [Zq])
        refine hk3 (i := 6) rfl (by kernel_rfl) Zh hS rfl (fun K hK => ?_); go_simp; refine hK _ ?_; clear hK K; try simp only [Zq]
        (refine ha_val (i := 7) (v := .slice B2' (m2 - 1) (d2 - 1)) rfl (by kernel_rfl) (by kernel_rfl) (by kernel_rfl) (fun _ _ _ h => h) hS rfl (fun w' _ => (ex_slL (lo := 1) _ _ rfl rfl rfl hq2).trans (by rw [hB2'])) ?_; try simp only [Zq])
        refine ha_do (i := 4) (by kernel_rfl) rfl rfl (ex_bs29_1 _ rfl rfl) (hS.alloc (by have := hS.size; omega) _) ?_; try simp only [Zq]
        have hSa := hS.alloc (by have := hS.size; omega) (.cells #[.string b] 9)
        obtain ⟨v', w', hr, hown, hgr, -⟩ := run_push29 b 29 (own_below HO.out (Below.refl _ wr).drew) (by have := hS.size; omega) (by have := HL.out; omega)
        have hS' := hSa.grown hgr (by have := hSa.size; omega) (fun q hq => by have := (HO.out.lt q hq).1; omega)
        refine ha_do (i := 5) (by kernel_rfl) rfl rfl (ex_app29 _ _ rfl rfl rfl hr) hS' ?_; try simp only [Zq]
        replace hS := hS'
        have HO2 := Lib.hid hown
        clear hr hown hgr hSa hS' HO
        refine hk3 (i := 8) rfl (by kernel_rfl) Zh hS rfl (fun K hK => ?_); go_simp; refine hK _ ?_; clear hK K; try simp only [Zq]
        refine hk3 (i := 9) rfl (by kernel_rfl) Zh hS rfl (fun K hK => ?_); go_simp; refine hK _ ?_; clear hK K; try simp only [Zq]
        refine wpAnyH_done (by kernel_rfl) ?_ _
        go_wp2_with fail
        go_roundw
        case rel => exact ⟨some ad1, B2', m1, m2 - 1, d1, d2 - 1, a :: t1, t2, o ++ [b], rfl, rfl, hm1, by omega, hd1, by omega, H1, HC2, Lib.hid (by rw [HM.out, mergeL, if_pos HQ.out.symm]; simp), Lib.hid (by have := HL.out; simp; omega), Lib.hid (by rw [List.length_append]; exact HO2.out), Lib.hid hS⟩
        case measure => simp [slLen]; omega
      | false =>
        obtain ⟨B1', hB1', hcut⟩ := H1.out.cut (lo := 1) (hi := m1) (by omega) (Nat.le_refl _) hd1
        rw [List.take_of_length_le (by rw [H1.out.1]; exact Nat.le_refl _), List.drop_one, List.tail_cons] at hcut
        have HC2 := Lib.hid hcut
        clear hcut
        go_upto_region 5 with (fail)
        refine wp_region_held_drew (S := Below w.heap.size w) mixed HB.out.drew (fun hS => ?_)
        refine hk3 (i := 0) rfl (by kernel_rfl) Zh hS rfl (fun K hK => ?_); go_simp; refine hK _ ?_; clear hK K; try simp only [Zq]
        refine hk3 (i := 1) rfl (by kernel_rfl) Zh hS rfl (fun K hK => ?_); go_simp; refine hK _ ?_; clear hK K; try simp only [Zq]
        (refine hv3 (i := 2) rfl (by kernel_rfl) Zg hS rfl (fun w' _ => ex_ixS (j := 0) _ _ rfl rfl rfl hq1) ?_; try simp only [Zq])
        (refine hv3 (i := 3) rfl (by kernel_rfl) Zg hS rfl (fun w' hw' => ex_one rfl (one9 (below_cell hw' HCA.out))) ?_; try simp only [Zq])
        refine hk3 (i := 6) rfl (by kernel_rfl) Zh hS rfl (fun K hK => ?_); go_simp; refine hK _ ?_; clear hK K; try simp only [Zq]
        (refine ha_val (i := 7) (v := .slice B1' (m1 - 1) (d1 - 1)) rfl (by kernel_rfl) (by kernel_rfl) (by kernel_rfl) (fun _ _ _ h => h) hS rfl (fun w' _ => (ex_slL (lo := 1) _ _ rfl rfl rfl hq1).trans (by rw [hB1'])) ?_; try simp only [Zq])
        refine ha_do (i := 4) (by kernel_rfl) rfl rfl (ex_bs29_1 _ rfl rfl) (hS.alloc (by have := hS.size; omega) _) ?_; try simp only [Zq]
        have hSa := hS.alloc (by have := hS.size; omega) (.cells #[.string a] 9)
        obtain ⟨v', w', hr, hown, hgr, -⟩ := run_push29 a 29 (own_below HO.out (Below.refl _ wr).drew) (by have := hS.size; omega) (by have := HL.out; omega)
        have hS' := hSa.grown hgr (by have := hSa.size; omega) (fun q hq => by have := (HO.out.lt q hq).1; omega)
        refine ha_do (i := 5) (by kernel_rfl) rfl rfl (ex_app29 _ _ rfl rfl rfl hr) hS' ?_; try simp only [Zq]
        replace hS := hS'
        have HO2 := Lib.hid hown
        clear hr hown hgr hSa hS' HO
        refine hk3 (i := 8) rfl (by kernel_rfl) Zh hS rfl (fun K hK => ?_); go_simp; refine hK _ ?_; clear hK K; try simp only [Zq]
        refine hk3 (i := 9) rfl (by kernel_rfl) Zh hS rfl (fun K hK => ?_); go_simp; refine hK _ ?_; clear hK K; try simp only [Zq]
        refine wpAnyH_done (by kernel_rfl) ?_ _
        go_wp2_with fail
        go_roundw
        case rel => exact ⟨B1', some ad2, m1 - 1, m2, d1 - 1, d2, t1, b :: t2, o ++ [a], rfl, rfl, by omega, hm2, by omega, hd2, HC2, H2, Lib.hid (by rw [HM.out, mergeL, if_neg (by rw [← HQ.out]; simp)]; simp), Lib.hid (by have := HL.out; simp; omega), Lib.hid (by rw [List.length_append]; exact HO2.out), Lib.hid hS⟩
        case measure => simp [slLen]; omega
theorem own_str2 {w : World} {b n : Nat} {v : Value} {l : List ByteArray} (h : w.ownsRow b 9 1 v n (strs l)) (hl : l.length = n) : ∃ A cap, v = .slice A n cap ∧ n ≤ cap ∧ StrAt w A n cap l := by
  obtain ⟨A, cap, h1, h2⟩ := own_str h hl
  refine ⟨A, cap, h1, ?_, h2⟩
  rcases h.2 with ⟨_, h0⟩ | ⟨g, cap', cur, hv, hB, hg, h3, _⟩
  · omega
  · rw [h1] at hv; cases hv; exact h3
theorem mergeL_length (a b : List ByteArray) : (mergeL a b).length = a.length + b.length := by
  fun_induction mergeL a b with
  | case1 b => simp
  | case2 x a => simp
  | case3 x a y b h ih => simp only [List.length_cons, ih]; omega
  | case4 x a y b h ih => simp only [List.length_cons, ih]; omega
theorem sortL_length (l : List ByteArray) : (sortL l).length = l.length := by
  fun_induction sortL l with
  | case1 l h => rfl
  | case2 l h ih1 ih2 => rw [mergeL_length, ih1, ih2, List.length_take, List.length_drop]; omega
set_option maxHeartbeats 4000000 in
set_option maxRecDepth 100000 in
theorem Sorted_any : ∀ (N : Nat) (A : Option Addr) (n c : Nat) (l : List ByteArray) (w : World), n ≤ N → n ≤ 100000 → n ≤ c → StrAt w A n c l →
    Calls Try.prog 26 #[.slice A n c] w fun e w' => ∃ v', e = .returned v' ∧ w'.ownsRow w.heap.size 9 1 v' n (strs (sortL l)) ∧ Below w.heap.size w w' := by
  intro N
  induction N with
  | zero =>
    intro A n c l w hN hn hc hl
    obtain rfl : n = 0 := by omega
    have HL := Lib.hid hl
    have H0 := Lib.hid hl.1
    clear hl
    go_enter Try.func26, Try.ntmps26
    go_upto_region 2 with (fail)
    apply wp_region_lit
    refine wl_k rfl (fun K hK => ?_); go_simp; refine hK _ ?_; clear hK K
    refine wl_ck rfl (fun K hK => ?_); go_simp; refine ⟨_, _, ⟨rfl, rfl⟩, hK _ _ ⟨_, CloneS_any A 0 c l (by omega) _ HL.out, ?_⟩⟩; clear hK K; rintro e w1 ⟨v', rfl, ho, hb⟩; refine ⟨_, rfl, ?_⟩; simp only [Zq]
    have HO := Lib.hid ho
    clear ho
    go_wp2_with fail
    go_ret
    refine ⟨_, rfl, ?_, hb⟩
    rw [sortL, dif_pos (by rw [H0.out]; omega)]; exact HO.out
  | succ N ih =>
    intro A n c l w hN hn hc hl
    have HI := Lib.hid ih
    have HL := Lib.hid hl
    have H0 := Lib.hid hl.1
    clear ih hl
    by_cases h2 : (n : Int) < 2
    · go_enter Try.func26, Try.ntmps26
      go_upto_region 2 with (fail)
      apply wp_region_lit
      refine wl_k rfl (fun K hK => ?_); go_simp; refine hK _ ?_; clear hK K
      refine wl_ck rfl (fun K hK => ?_); go_simp; refine ⟨_, _, ⟨rfl, rfl⟩, hK _ _ ⟨_, CloneS_any A n c l (by omega) _ HL.out, ?_⟩⟩; clear hK K; rintro e w1 ⟨v', rfl, ho, hb⟩; refine ⟨_, rfl, ?_⟩; simp only [Zq]
      have HO := Lib.hid ho
      clear ho
      go_wp2_with fail
      go_ret
      refine ⟨_, rfl, ?_, hb⟩
      rw [sortL, dif_pos (by rw [H0.out]; omega)]; exact HO.out
    · go_enter Try.func26, Try.ntmps26
      go_upto_region 4 with (fail)
      obtain ⟨m, hm⟩ : ∃ m, m = n / 2 := ⟨_, rfl⟩
      rw [show (n : Int) / 2 = (m : Int) by omega]
      have hm1 : m ≤ N := by omega
      have hm2 : n - m ≤ N := by omega
      have hm3 : m ≤ n := by omega
      have HM := Lib.hid hm
      have hn2 : 2 ≤ n := by omega
      clear hm h2
      obtain ⟨B1, hB1, hs1⟩ := HL.out.cut (lo := 0) (hi := m) (Nat.zero_le _) hm3 hc
      obtain ⟨B2, hB2, hs2⟩ := HL.out.cut (lo := m) (hi := n) hm3 (Nat.le_refl _) hc
      rw [Nat.sub_zero, Nat.sub_zero, List.drop_zero] at hs1
      rw [Nat.sub_zero, Nat.sub_zero] at hB1
      rw [List.take_of_length_le (by rw [H0.out]; exact Nat.le_refl _)] at hs2
      have hbd := (Below.refl w.heap.size w).drew
      have HS1 := Lib.hid (hs1.below hbd)
      have HS2 := Lib.hid (hs2.below hbd)
      clear hs1 hs2 HL hbd
      refine wp_region_held_drew (S := Kept [] w) mixed (Kept.drew [] w) (fun hS => ?_)
      refine hk3 (i := 0) rfl (by kernel_rfl) Zh hS rfl (fun K hK => ?_); go_simp; refine hK _ ?_; clear hK K; try simp only [Zq]
      refine hk3 (i := 1) rfl (by kernel_rfl) Zh hS rfl (fun K hK => ?_); go_simp; refine hK _ ?_; clear hK K; try simp only [Zq]
      refine ha_val (i := 2) (v := .slice B1 m c) rfl (by kernel_rfl) (by kernel_rfl) (by kernel_rfl) (fun _ _ _ h => h) hS rfl (fun w' _ => (ex_slH (hi := m) _ _ rfl rfl rfl (by omega)).trans (by rw [hB1])) ?_; try simp only [Zq]
      refine hk3 (i := 4) rfl (by kernel_rfl) Zh hS rfl (fun K hK => ?_); go_simp; refine hK _ ?_; clear hK K; try simp only [Zq]
      refine hk3 (i := 5) rfl (by kernel_rfl) Zh hS rfl (fun K hK => ?_); go_simp; refine hK _ ?_; clear hK K; try simp only [Zq]
      refine ha_val (i := 6) (v := .slice B2 (n - m) (c - m)) rfl (by kernel_rfl) (by kernel_rfl) (by kernel_rfl) (fun _ _ _ h => h) hS rfl (fun w' _ => (ex_slL (lo := m) _ _ rfl rfl rfl hm3).trans (by rw [hB2])) ?_; try simp only [Zq]
      refine ha_call (i := 3) (by kernel_rfl) rfl rfl (fun K hK => ?_); go_simp; refine ⟨_, _, ⟨rfl, rfl⟩, hK _ _ ⟨_, HI.out B1 m c _ _ hm1 (by omega) (by omega) HS1.out, ?_⟩⟩; clear hK K; rintro e w1 ⟨v1, rfl, ho1, hb1⟩; refine ⟨_, rfl, hS.below hb1, ?_⟩; replace hS := hS.below hb1; (replace HS2 := Lib.hid (HS2.out.below hb1); have HO1 := Lib.hid ho1; have hz1 := hb1.size; clear ho1 hb1); try simp only [Zq]
      refine ha_call (i := 7) (by kernel_rfl) rfl rfl (fun K hK => ?_); go_simp; refine ⟨_, _, ⟨rfl, rfl⟩, hK _ _ ⟨_, HI.out B2 (n - m) (c - m) _ _ hm2 (by omega) (by omega) HS2.out, ?_⟩⟩; clear hK K; rintro e w2 ⟨v2, rfl, ho2, hb1⟩; refine ⟨_, rfl, hS.below hb1, ?_⟩; replace hS := hS.below hb1; (replace HO1 := Lib.hid (own_below HO1.out hb1); have HO2 := Lib.hid ho2; have hz2 := hb1.size; clear ho2 hb1); try simp only [Zq]
      obtain ⟨C1, d1, rfl, hd1, hs1⟩ := own_str2 HO1.out (by rw [sortL_length, List.length_take, H0.out]; omega)
      obtain ⟨C2, d2, rfl, hd2, hs2⟩ := own_str2 HO2.out (by rw [sortL_length, List.length_drop, H0.out])
      have HT1 := Lib.hid hs1
      have HT2 := Lib.hid hs2
      clear hs1 hs2 HO1 HO2
      refine ha_call (i := 8) (by kernel_rfl) rfl rfl (fun K hK => ?_); go_simp; refine ⟨_, _, ⟨rfl, rfl⟩, hK _ _ ⟨_, merge_any C1 C2 m (n - m) d1 d2 _ _ (by omega) (by omega) hd1 hd2 _ HT1.out HT2.out, ?_⟩⟩; clear hK K; rintro e w3 ⟨v3, rfl, ho3, hb1⟩; refine ⟨_, rfl, hS.below hb1, ?_⟩; replace hS := hS.below hb1; (have HO3 := Lib.hid ho3; clear ho3 hb1); try simp only [Zq]
      refine hk3 (i := 9) rfl (by kernel_rfl) Zh hS rfl (fun K hK => ?_); go_simp; refine hK _ ?_; clear hK K; try simp only [Zq]
      refine wpAnyH_done (by kernel_rfl) ?_ _
      have hbz : w.heap.size ≤ w2.heap.size := by have : w.drew.heap.size = w.heap.size := rfl; omega
      have hbf := hS.toBelow (B := w.heap.size) (Nat.le_refl _) (by simp)
      go_wp2_with fail
      go_ret
      refine ⟨_, rfl, ?_, hbf⟩
      have ho := own_weak HO3.out hbz
      rw [show m + (n - m) = n by omega] at ho
      rw [sortL, dif_neg (by rw [H0.out]; omega), H0.out, ← HM.out]
      exact ho
theorem change_eq {A : Sto} {n : Int} {k : Nat} (h : (A.own n).id n = some k) (b : Buf) : A.change n b = { A.own n with bufs := (A.own n).bufs.set k b } := by unfold Sto.change Sto.put; rw [h]
theorem Nm.Kept.grownO {D : List Nat} {row : Option Nat} {W w w' : World} (h : Kept D W w) (hg : w.grownBy w' row) (hm : ∀ p, row = some p → p ∈ D) : Kept D W w' :=
  ⟨Nat.le_trans h.1 hg.size, fun k hk hp => by rw [hg.block k (by have := h.1; omega) (fun e => hp (hm k e.symm))]; exact h.2 k hk hp, hg.os.trans h.os, hg.tape.trans h.tape, hg.output.trans h.output⟩
/-- one buffer's change behind own: the whole store -/
theorem StoreAt.changed {W w' : World} {s : Nat} {A : Sto} {n : Int} {rs : List Row} (h : StoreAt W s (A.own n) rs) {k : Nat} {r r' : Row} {b b' : Buf} {D : List Nat} (hid : (A.own n).id n = some k) (hr : rs[k]? = some r) (hb : (A.own n).bufs[k]? = some b)
    (hK : Kept D W w') (hD : ∀ q ∈ D, q = r.g ∨ r.lv.ownBlock = some q ∨ r.pv.ownBlock = some q) (hg : r'.g = r.g)
    (hl : r'.lv.ownBlock = r.lv.ownBlock ∨ ∀ q, r'.lv.ownBlock = some q → W.heap.size ≤ q) (hp : r'.pv.ownBlock = r.pv.ownBlock ∨ ∀ q, r'.pv.ownBlock = some q → W.heap.size ≤ q) (hB : BufAt w' r' b') :
    StoreAt w' s (A.change n b') (rs.set k r') ∧ Ran s rs W (rs.set k r') w' := by
  rw [change_eq hid]
  refine ⟨h.mod hr hb (fun q hq h1 h2 h3 => hK.block q hq (fun hm => by rcases hD q hm with e | e | e; exact h1 e; exact h2 e; exact h3 e)) hg hl hp hB, ?_⟩
  refine Ran.of hK (fun q hq => Or.inl (Or.inr ⟨k, r, hr, hD q hq⟩)) (fun q hq => ?_)
  rcases foot_set hq with hq | e | e | e
  · exact Or.inl hq
  · rw [e, hg]; exact Or.inl (foot_row hr)
  · rcases hl with hl | hl
    · rw [hl] at e; exact Or.inl (Or.inr ⟨k, r, hr, Or.inr (Or.inl e)⟩)
    · exact Or.inr (hl q e)
  · rcases hp with hp | hp
    · rw [hp] at e; exact Or.inl (Or.inr ⟨k, r, hr, Or.inr (Or.inr e)⟩)
    · exact Or.inr (hp q e)
theorem BufAt.listIn {w w1 : World} {r : Row} {b : Buf} {l' : List ByteArray} (h : BufAt w r b) (hs : ∀ q, q < w.heap.size → r.lv.ownBlock ≠ some q → w1.heap[q]? = w.heap[q]?) (ho : w1.ownsRow 0 9 1 r.lv l'.length (strs l')) : BufAt w1 r { b with l := l' } := by
  obtain ⟨h1, h2, h3, h4⟩ := h
  refine ⟨?_, ho, ?_, h4⟩
  · rw [hs _ (heap_lt h1) (fun e => by obtain ⟨_, c, hc⟩ := own_block h2 e; rw [h1] at hc; simp only [Option.some.injEq, Obj.cells.injEq] at hc; exact absurd hc.2.1 (by decide))]; exact h1
  · refine own_same h3 (fun q hq he => hs q hq (fun e => ?_))
    obtain ⟨_, c, hc⟩ := own_block h2 e
    obtain ⟨_, c', hc'⟩ := own_block h3 he
    rw [hc] at hc'; simp only [Option.some.injEq, Obj.cells.injEq] at hc'; exact absurd hc'.2.1 (by decide)
theorem BufAt.gAt1 {w w1 : World} {r : Row} {b : Buf} (h : BufAt w r b) (hs : ∀ q, q < w.heap.size → r.lv.ownBlock ≠ some q → w1.heap[q]? = w.heap[q]?) : w1.heap[r.g]? = some (.cells (bcells b.kd r.lv b.seed (cn b.t : Int) r.pv) 87 (0, 0)) := by
  obtain ⟨h1, h2, h3, h4⟩ := h
  rw [hs _ (heap_lt h1) (fun e => by obtain ⟨_, c, hc⟩ := own_block h2 e; rw [h1] at hc; simp only [Option.some.injEq, Obj.cells.injEq] at hc; exact absurd hc.2.1 (by decide))]; exact h1
/-- a list put in the place of another one -/
theorem BufAt.setList {w w1 : World} {r : Row} {b : Buf} {v' : Value} {l' : List ByteArray} (h : BufAt w r b) (hs : ∀ q, q < w.heap.size → r.lv.ownBlock ≠ some q → w1.heap[q]? = w.heap[q]?) (ho : w1.ownsRow 0 9 1 v' l'.length (strs l')) :
    BufAt (w1.setCell ⟨r.g, 1, none⟩ v') ⟨r.g, v', r.pv⟩ { b with l := l' } := by
  have hg := h.gAt1 hs
  obtain ⟨h1, h2, h3, h4⟩ := h
  refine ⟨(hs_new hg).trans (by rw [bcells_set1]), ?_, ?_, h4⟩
  · refine own_same ho (fun q hq he => heap_setCell_other _ _ _ _ (fun e => ?_))
    have e' : q = r.g := e
    obtain ⟨_, c, hc⟩ := own_block ho he
    rw [e', hg] at hc; simp only [Option.some.injEq, Obj.cells.injEq] at hc; exact absurd hc.2.1 (by decide)
  · refine own_same h3 (fun q hq he => ?_)
    obtain ⟨_, c', hc'⟩ := own_block h3 he
    rw [heap_setCell_other _ _ _ _ (fun e => by have e' : q = r.g := e; rw [e', h1] at hc'; simp only [Option.some.injEq, Obj.cells.injEq] at hc'; exact absurd hc'.2.1 (by decide))]
    refine hs q hq (fun e => ?_)
    obtain ⟨_, c, hc⟩ := own_block h2 e
    rw [hc] at hc'; simp only [Option.some.injEq, Obj.cells.injEq] at hc'; exact absurd hc'.2.1 (by decide)
section
variable {P : Program} {ops : Array Oper} {Q : Exit → Act → World → Prop} {md : Region.Mode} {S : World → Prop} {i : Nat} {oi : Oper} {fuel : Nat} {listed : Array Bool} {a : Act} {w : World}
theorem sh_w {v : Value} {w2 : World} (ho : ops[i]? = some oi) (hg : Region.wanted oi (yielded ops a.tmps) = true) (hv : (execOp a.eval oi).run P w = .ok (.value v) w2) (hS : S w2) (h : wpAnyH P md ops Q S fuel (listed.setIfInBounds i true) (a.put oi.dst v) w2) : StepH P md ops Q S fuel listed a w i := by
  unfold StepH wpOp
  simp only [ho]
  rw [if_pos hg]
  refine .inl ?_
  unfold Oper.wp
  rw [hv]
  exact ⟨hS, h⟩
end
/-- what Do ends with -/
def DoPost (s : Nat) (A : Sto) (rs : List Row) (o : OpV) (w : World) (e : Ending) (w' : World) : Prop :=
  e = .returned (.int .i64 (refA A o)) ∧ ∃ rs', StoreAt w' s (doA A o) rs' ∧ Ran s rs w rs' w'
theorem doA_ok {A : Sto} {o : OpV} (h : refA A o = 0) : doA A o = A.does o := by unfold doA; rw [if_pos h]
set_option maxHeartbeats 4000000 in
set_option maxRecDepth 100000 in
theorem Do_err (s : Nat) (A : Sto) (rs : List Row) (hA : Good A) (o : OpV) (hr : refA A o ≠ 0) (w : World) (h : StoreAt w s A rs) :
    Calls Try.prog 19 #[.pointer (some ⟨s, 0, none⟩), .agg o.cells] w fun e w' => DoPost s A rs o w e w' := by
  have HS := Lib.hid h
  have HA := Lib.hid hA
  obtain ⟨R, hR⟩ : ∃ R, Hid (R = refA A o) := ⟨_, Lib.hid rfl⟩
  rw [← hR.out] at hr
  clear h hA
  go_enter Try.func19, Try.ntmps19
  go_upto_region 1 with (fail)
  have hb0 := (Below.refl w.heap.size w).alloc (Nat.le_refl _) (.cells o.cells 39 (0, 0))
  refine wp_world (fun W => Below w.heap.size w W ∧ W.heap[w.heap.size]? = some (.cells o.cells 39 (0, 0))) ⟨hb0, ha_new rfl⟩ ?_
  clear hb0
  rintro W ⟨hb, h1⟩
  replace HS := Lib.hid (HS.out.below hb)
  apply wp_region_lit
  refine wl_k rfl (fun K hK => ?_); go_simp; refine hK _ ?_; clear hK K
  ((with_reducible apply wl_rowG); exact rfl; exact rfl; exact rowO h1)
  simp only [Zq]
  refine wl_ck rfl (fun K hK => ?_); go_simp; refine ⟨_, _, ⟨rfl, rfl⟩, hK _ _ ⟨_, refused_any s A rs HA.out o _ HS.out, ?_⟩⟩; clear hK K; rintro e w1 ⟨rfl, hb1⟩; refine ⟨_, rfl, ?_⟩; simp only [Zq]
  rw [← hR.out]
  replace HS := Lib.hid (HS.out.below (hb1.mono (Nat.le_refl _)))
  replace hb := hb.trans (hb1.mono hb.size)
  clear hb1
  go_wp2_with fail
  go_ret
  refine ⟨congrArg (fun z => Ending.returned (Value.int .i64 z)) hR.out, rs, ?_, Ran.ofBelow hb⟩
  unfold doA; rw [if_neg (by rw [← hR.out]; exact hr)]; exact HS.out
open Go.RowKit Go.Proofs.Ytbhdgeoljlhmcaa.Nm Go.Proofs.Ytbhdgeoljlhmcaa.St
set_option linter.unusedSimpArgs false
set_option maxHeartbeats 4000000 in
set_option maxRecDepth 100000 in
theorem Do_3 (s : Nat) (A : Sto) (rs : List Row) (hA : Good A) (hm : A.bufs.length ≤ 100000) (hs0 : 0 ≤ A.shared) (hs1 : A.shared ≤ 100000) (o : OpV) (hk : o.kind = 3) (hr : refA A o = 0) (w : World) (h : StoreAt w s A rs) :
    Calls Try.prog 19 #[.pointer (some ⟨s, 0, none⟩), .agg o.cells] w fun e w' => DoPost s A rs o w e w' := by
  have HS := Lib.hid h
  have HA := Lib.hid hA
  have HR := Lib.hid hr
  have hf : formS o = true := by
    cases hq : formS o with
    | true => rfl
    | false => unfold refA at hr; rw [hq] at hr; simp at hr
  have hfr := form_fr hf
  have HF := Lib.hid hf
  have HFT : Hid (∀ q, Foot s rs q → q < w.heap.size) := Lib.hid (fun q hq => h.lt hq)
  have hsw : s < w.heap.size := HFT.out s (Or.inl rfl)
  clear h hA hf
  go_enter Try.func19, Try.ntmps19
  go_upto_region 1 with (fail)
  have hb0 := (Below.refl w.heap.size w).alloc (Nat.le_refl _) (.cells o.cells 39 (0, 0))
  refine wp_world (fun W => Below w.heap.size w W ∧ W.heap[w.heap.size]? = some (.cells o.cells 39 (0, 0))) ⟨hb0, ha_new rfl⟩ ?_
  clear hb0
  rintro W ⟨hb, h1⟩
  replace HS := Lib.hid (HS.out.below hb)
  apply wp_region_lit
  refine wl_k rfl (fun K hK => ?_); go_simp; refine hK _ ?_; clear hK K
  ((with_reducible apply wl_rowG); exact rfl; exact rfl; exact rowO h1)
  simp only [Zq]
  refine wl_ck rfl (fun K hK => ?_); go_simp; refine ⟨_, _, ⟨rfl, rfl⟩, hK _ _ ⟨_, refused_any s A rs HA.out o _ HS.out, ?_⟩⟩; clear hK K; rintro e w1 ⟨rfl, hb1⟩; refine ⟨_, rfl, ?_⟩; simp only [Zq]
  rw [hr]
  replace h1 := below_look hb1 h1
  replace HS := Lib.hid (HS.out.below (hb1.mono (Nat.le_refl _)))
  replace hb := hb.trans (hb1.mono hb.size)
  clear hb1 hr
  obtain ⟨kind, fr, to, at_, n, key⟩ := o
  simp only at hk
  subst hk
  simp only at hfr
  obtain ⟨f, rfl⟩ : ∃ f : Nat, fr = (f : Int) := ⟨fr.toNat, by omega⟩
  have hf8 : (f : Int) < 8 := by omega
  have hnm := nsOf_get (rs := rs) (id_names HA.out hfr.1 hfr.2)
  rw [Int.toNat_natCast] at hnm
  clear hfr
  have c1 := (op_cell h1).2.1
  have c6 := sc_name HS.out.main hnm
  go_upto_region 4 with (fail)
  refine wp_region_held_drew (S := Kept [] w1) mixed (Kept.drew [] w1) (fun hS => ?_)
  refine hk3 (i := 0) rfl (by kernel_rfl) Zh hS rfl (fun K hK => ?_); go_simp; refine hK _ ?_; clear hK K; try simp only [Zq]
  refine hk3 (i := 1) rfl (by kernel_rfl) Zh hS rfl (fun K hK => ?_); go_simp; refine hK _ ?_; clear hK K; try simp only [Zq]
  refine hv3 (i := 2) rfl (by kernel_rfl) Zg hS rfl (fun w' hw' => ex_one rfl (one3 (hw'.cell c1 (by simp <;> omega)))) ?_; try simp only [Zq]
  refine hk3 (i := 3) rfl (by kernel_rfl) Zh hS rfl (fun K hK => ?_); go_simp; refine hK _ ?_; clear hK K; try simp only [Zq]
  refine hk3 (i := 4) rfl (by kernel_rfl) Zh hS rfl (fun K hK => ?_); go_simp; refine hK _ ?_; clear hK K; try simp only [Zq]
  refine hk3 (i := 5) rfl (by kernel_rfl) Zh hS rfl (fun K hK => ?_); go_simp; refine hK _ ?_; clear hK K; try simp only [Zq]
  refine hv3 (i := 6) rfl (by kernel_rfl) Zg hS rfl (fun w' hw' => ex_one rfl (one80 (hw'.cell c6 (by simp <;> omega)))) ?_; try simp only [Zq]
  refine hk3 (i := 7) rfl (by kernel_rfl) Zh hS rfl (fun K hK => ?_); go_simp; refine hK _ ?_; clear hK K; try simp only [Zq]
  refine wpAnyH_done (by kernel_rfl) ?_ _
  replace HS := Lib.hid (HS.out.below (Below.refl w1.heap.size w1).drew)
  replace hb := hb.drew
  replace h1 : w1.drew.heap[w.heap.size]? = _ := h1
  clear c1 c6 hS
  generalize w1.drew = W at *
  have hcs := op_cell h1
  obtain ⟨c0, c1, c2, c3, c4, c5⟩ := hcs
  simp only at c0 c1 c2 c3 c4 c5
  have hkd : (A.buf (f : Int)).kd = 1 := by
    have := HR.out
    apply Classical.byContradiction
    intro hne
    unfold refA at this
    rw [HF.out] at this
    simp only [Bool.true_eq_false, if_false] at this
    rw [if_pos ⟨by decide, hne⟩] at this
    cases this
  obtain ⟨k, hk⟩ : ∃ k, A.id (f : Int) = some k := by
    cases hq : A.id (f : Int) with
    | none => rw [buf_none hq] at hkd; simp [noBuf] at hkd
    | some k => exact ⟨k, rfl⟩
  rw [hk]
  obtain ⟨r, hr, hbk, hB, hG, hns⟩ := HS.out.row HA.out hk
  simp only [Option.map_some, gAt_eq hr]
  rw [show bp (some r.g) = .pointer (some ⟨r.g, 0, none⟩) from rfl]
  have HRw := Lib.hid hr
  have HKk := Lib.hid hk
  have HBk := Lib.hid hbk
  have HB := Lib.hid hB
  have HG := Lib.hid hG
  have HKD := Lib.hid hkd
  clear hr hk hbk hB hG hns hkd hnm
  go_upto_region 11 with (fail)
  apply wp_region_lit
  iterate 2 (refine wl_k rfl (fun K hK => ?_); go_simp; refine hK _ ?_; clear hK K)
  ((with_reducible apply wl_oneG); exact rfl; exact rfl; exact one3 c1)
  refine wl_ck rfl (fun K hK => ?_); go_simp; refine ⟨_, _, ⟨rfl, rfl⟩, hK _ _ ⟨_, own_at s A rs HA.out (f : Int) (by omega) hf8 k HKk.out hm hs0 hs1 _ HS.out, ?_⟩⟩; clear hK K; rintro e w2 ⟨rs2, k2, r2, rfl, hs2, hid2, hr2, hb2, hran2⟩; refine ⟨_, rfl, ?_⟩; simp only [Zq]
  have hne : ∀ q, Foot s rs2 q → q ≠ w.heap.size := fun q hq e => by
    have hz := heap_lt h1
    rcases hran2.foot q hq with h9 | h9
    · have := HFT.out q h9; omega
    · omega
  replace h1 := (hran2.block w.heap.size (heap_lt h1) (fun hq => by have := HFT.out _ hq; omega)).trans h1
  have HRAN := Lib.hid ((Ran.ofBelow hb).trans hran2)
  have HS2 := Lib.hid hs2
  have HID := Lib.hid hid2
  have HR2 := Lib.hid hr2
  have HB2 := Lib.hid hb2
  have hbf := hs2.rows k2 r2 _ hr2 hb2
  have hgo : r2.g ≠ w.heap.size := hne _ (foot_row hr2)
  have hlo : r2.lv.ownBlock ≠ some w.heap.size := fun e => hne _ (Or.inr ⟨k2, r2, hr2, Or.inr (Or.inl e)⟩) rfl
  have hpo : r2.pv.ownBlock ≠ some w.heap.size := fun e => hne _ (Or.inr ⟨k2, r2, hr2, Or.inr (Or.inr e)⟩) rfl
  clear hs2 hid2 hr2 hb2 hran2 hne HS HRw HKk HBk HB hb c0 c1 c2 c3 c4 c5 hm hs0 hs1 HFT
  have hcs := op_cell h1
  obtain ⟨c0, c1, c2, c3, c4, c5⟩ := hcs
  simp only at c0 c1 c2 c3 c4 c5
  have HBF := Lib.hid hbf
  clear hbf
  refine wl_k rfl (fun K hK => ?_); go_simp; refine hK _ ?_; clear hK K
  have hlen := HG.out.len.1
  obtain ⟨D, hDe⟩ : ∃ D, D = r2.g :: r2.lv.ownBlock.toList := ⟨_, rfl⟩
  have hgD : r2.g ∈ D := by rw [hDe]; simp
  have hlD : ∀ p, r2.lv.ownBlock = some p → p ∈ D := fun p hp => by rw [hDe, hp]; simp
  have hDf : ∀ q ∈ D, q = r2.g ∨ r2.lv.ownBlock = some q ∨ r2.pv.ownBlock = some q := fun q hq => by
    rw [hDe] at hq
    rcases List.mem_cons.1 hq with e | e
    · exact Or.inl e
    · exact Or.inr (Or.inl (by simpa [Option.mem_toList] using e))
  have hoD : w.heap.size ∉ D := fun hm => by
    rcases hDf _ hm with e | e | e
    · exact hgo e.symm
    · exact hlo e
    · exact hpo e
  have HD := Lib.hid hDf
  clear hDe hDf hgo hlo hpo
  have HBD := Lib.hid (HBF.out.same (w' := w2.drew) (fun q _ _ => rfl))
  have g1 := (bc_cell HBD.out.1).2.1
  go_upto_region 12 with (fail)
  refine wp_region_held_drew (S := Kept D w2) mixed (Kept.drew D w2) (fun hS => ?_)
  refine hk3 (i := 0) rfl (by kernel_rfl) Zh hS rfl (fun K hK => ?_); go_simp; refine hK _ ?_; clear hK K; try simp only [Zq]
  refine hk3 (i := 1) rfl (by kernel_rfl) Zh hS rfl (fun K hK => ?_); go_simp; refine hK _ ?_; clear hK K; try simp only [Zq]
  refine hk3 (i := 2) rfl (by kernel_rfl) Zh hS rfl (fun K hK => ?_); go_simp; refine hK _ ?_; clear hK K; try simp only [Zq]
  refine hk3 (i := 3) rfl (by kernel_rfl) Zh hS rfl (fun K hK => ?_); go_simp; refine hK _ ?_; clear hK K; try simp only [Zq]
  refine hk3 (i := 5) rfl (by kernel_rfl) Zh hS rfl (fun K hK => ?_); go_simp; refine hK _ ?_; clear hK K; try simp only [Zq]
  (refine hv3 (i := 6) rfl (by kernel_rfl) Zg hS rfl (fun w' hw' => ex_one rfl (one9 (hw'.cell c5 hoD))) ?_; try simp only [Zq])
  obtain ⟨v', w', hr, hown, hgr, hloc⟩ := run_push29 key 29 (w := w2.drew) (B := 0) HBD.out.2.1 (Nat.zero_le _) (show (A.buf (f : Int)).l.length ≤ 1000000 by omega)
  have hSa := hS.below ((Below.refl w2.drew.heap.size w2.drew).alloc (Nat.le_refl _) (.cells #[.string key] 9))
  refine ha_two (i := 4) (j := 7) (by kernel_rfl) ?_ ?_
  · refine sh_val (i := 4) rfl rfl (ex_one rfl (one29 g1)) hS ?_; try simp only [Zq]
    refine ha_do (i := 7) (by kernel_rfl) rfl rfl (ex_bs29_1 _ rfl rfl) hSa ?_; try simp only [Zq]
    refine ha_do (i := 8) (by kernel_rfl) rfl rfl (ex_app29 _ _ rfl rfl rfl hr) (hSa.grownO hgr hlD) ?_; try simp only [Zq]
    replace hS := hSa.grownO hgr hlD
    have hsame : ∀ q, q < w2.heap.size → r2.lv.ownBlock ≠ some q → w'.heap[q]? = w2.heap[q]? := fun q hq hne => by
      have hal := (Below.refl w2.drew.heap.size w2.drew).alloc (Nat.le_refl _) (.cells #[.string key] 9)
      rw [hgr.block q (Nat.lt_of_lt_of_le hq hal.size) (fun e => hne e.symm), hal.block q hq]; rfl
    have hg := HBF.out.gAt1 hsame
    refine hk3 (i := 9) rfl (by kernel_rfl) Zh hS rfl (fun K hK => ?_); go_simp; refine hK _ ?_; clear hK K; try simp only [Zq]
    refine hk3 (i := 10) rfl (by kernel_rfl) Zh hS rfl (fun K hK => ?_); go_simp; refine hK _ ?_; clear hK K; try simp only [Zq]
    refine ha_storeC (i := 11) (by kernel_rfl) rfl rfl 29 _ _ rfl r2.g 1 v' rfl rfl info29 (own_one hown) (by rw [(bc_cell hg).2.1]; rfl) (frozen_of_row _ _ _ _ _ hg) (hS.setCell hgD 1 v') (fun hS => ?_); try simp only [Zq]
    refine wpAnyH_done (by kernel_rfl) ?_ _
    have hfin := HS2.out.changed HID.out HR2.out HB2.out hS HD.out (r' := ⟨r2.g, v', r2.pv⟩) rfl (hloc.imp id (fun e q hq => by rw [e] at hq; cases hq; exact Nat.le_succ _)) (Or.inl rfl) (HBF.out.setList hsame (l' := (A.buf (f : Int)).l ++ [key]) (by simpa using hown))
    have HFIN := Lib.hid hfin
    clear hfin hsame hg hr hown hgr hloc hSa hS g1 c0 c1 c2 c3 c4 c5 h1 hgD hlD hoD
    go_wp2_with fail
    go_ret
    exact ⟨congrArg (fun z => Ending.returned (Value.int .i64 z)) HR.out.symm, rs2.set k2 ⟨r2.g, v', r2.pv⟩, by rw [doA_ok HR.out]; exact HFIN.out.1, HRAN.out.trans HFIN.out.2⟩
  · refine sh_w (i := 7) rfl rfl (ex_bs29_1 _ rfl rfl) hSa ?_; try simp only [Zq]
    refine ha_do (i := 4) (by kernel_rfl) rfl rfl (ex_one rfl (one29 (below_cell ((Below.refl w2.drew.heap.size w2.drew).alloc (Nat.le_refl _) (.cells #[.string key] 9)) g1))) hSa ?_; try simp only [Zq]
    refine ha_do (i := 8) (by kernel_rfl) rfl rfl (ex_app29 _ _ rfl rfl rfl hr) (hSa.grownO hgr hlD) ?_; try simp only [Zq]
    replace hS := hSa.grownO hgr hlD
    have hsame : ∀ q, q < w2.heap.size → r2.lv.ownBlock ≠ some q → w'.heap[q]? = w2.heap[q]? := fun q hq hne => by
      have hal := (Below.refl w2.drew.heap.size w2.drew).alloc (Nat.le_refl _) (.cells #[.string key] 9)
      rw [hgr.block q (Nat.lt_of_lt_of_le hq hal.size) (fun e => hne e.symm), hal.block q hq]; rfl
    have hg := HBF.out.gAt1 hsame
    refine hk3 (i := 9) rfl (by kernel_rfl) Zh hS rfl (fun K hK => ?_); go_simp; refine hK _ ?_; clear hK K; try simp only [Zq]
    refine hk3 (i := 10) rfl (by kernel_rfl) Zh hS rfl (fun K hK => ?_); go_simp; refine hK _ ?_; clear hK K; try simp only [Zq]
    refine ha_storeC (i := 11) (by kernel_rfl) rfl rfl 29 _ _ rfl r2.g 1 v' rfl rfl info29 (own_one hown) (by rw [(bc_cell hg).2.1]; rfl) (frozen_of_row _ _ _ _ _ hg) (hS.setCell hgD 1 v') (fun hS => ?_); try simp only [Zq]
    refine wpAnyH_done (by kernel_rfl) ?_ _
    have hfin := HS2.out.changed HID.out HR2.out HB2.out hS HD.out (r' := ⟨r2.g, v', r2.pv⟩) rfl (hloc.imp id (fun e q hq => by rw [e] at hq; cases hq; exact Nat.le_succ _)) (Or.inl rfl) (HBF.out.setList hsame (l' := (A.buf (f : Int)).l ++ [key]) (by simpa using hown))
    have HFIN := Lib.hid hfin
    clear hfin hsame hg hr hown hgr hloc hSa hS g1 c0 c1 c2 c3 c4 c5 h1 hgD hlD hoD
    go_wp2_with fail
    go_ret
    exact ⟨congrArg (fun z => Ending.returned (Value.int .i64 z)) HR.out.symm, rs2.set k2 ⟨r2.g, v', r2.pv⟩, by rw [doA_ok HR.out]; exact HFIN.out.1, HRAN.out.trans HFIN.out.2⟩
theorem run_box87 (kd seed cnt : Int) (A : Option Addr) (n c : Nat) (A2 : Option Addr) (n2 c2 : Nat) (w : World) : (Instr.box 87 (.agg (bcells kd (.slice A n c) seed cnt (.slice A2 n2 c2)))).run Try.prog w = .ok (.pointer (some ⟨w.heap.size, 0, none⟩)) (w.alloc (.cells (bcells kd (.slice A n c) seed cnt (.slice A2 n2 c2)) 87)) := by kernel_rfl
theorem ex_box87 {ev : Operand → Value} {o : Oper} {w : World} (x : Operand) (ho : o.op = .box 87 x) {kd seed cnt : Int} {A : Option Addr} {n c : Nat} {A2 : Option Addr} {n2 c2 : Nat} (hx : ev x = .agg (bcells kd (.slice A n c) seed cnt (.slice A2 n2 c2))) :
    (execOp ev o).run Try.prog w = .ok (.value (.pointer (some ⟨w.heap.size, 0, none⟩))) (w.alloc (.cells (bcells kd (.slice A n c) seed cnt (.slice A2 n2 c2)) 87)) := by
  unfold execOp
  simp [ho, hx, run_box87 kd seed cnt A n c A2 n2 c2 w, Result.andThen]
theorem built87_1 : Try.prog.built 87 [(0, .int .i64 1)] = some (bcells 1 (.slice none 0 0) 0 0 (.slice none 0 0)) := by kernel_rfl
theorem built87_s (A : Option Addr) (n c : Nat) : Try.prog.built 87 [(0, .int .i64 1), (1, .slice A n c)] = some (bcells 1 (.slice A n c) 0 0 (.slice none 0 0)) := by kernel_rfl
theorem built87_t (n : Int) (A : Option Addr) (m c : Nat) : Try.prog.built 87 [(0, .int .i64 2), (2, .int .i64 n), (4, .slice A m c)] = some (bcells 2 (.slice none 0 0) n 0 (.slice A m c)) := by kernel_rfl
theorem run_mk85 (w : World) : (Instr.makeSlice 85 (.int .i64 4) (.int .i64 4)).run Try.prog w = .ok (.slice (some ⟨w.heap.size, 0, none⟩) 4 4) (w.alloc (.cells (tcells (List.replicate 4 none)).toArray 95)) := by kernel_rfl
theorem ex_mk85 {ev : Operand → Value} {o : Oper} {w : World} (ho : o.op = .makeSlice 85 (.const (.int .i64 4)) (.const (.int .i64 4))) (h4 : ev (.const (.int .i64 4)) = .int .i64 4) :
    (execOp ev o).run Try.prog w = .ok (.value (.slice (some ⟨w.heap.size, 0, none⟩) 4 4)) (w.alloc (.cells (tcells (List.replicate 4 none)).toArray 95)) := by
  unfold execOp
  simp only [ho, h4, run_mk85 w, Sem.run_bind, Result.andThen_ok]
  rfl
theorem own_nil (w : World) (B : Nat) (e : TypeId) (size : Nat) : w.ownsRow B e size (.slice none 0 0) 0 [] := ⟨by simp, Or.inl ⟨rfl, rfl⟩⟩
/-- a name lets refer to a new buffer -/
theorem made_at (s : Nat) (A : Sto) (rs : List Row) (hA : Good A) (n : Int) (h0 : 0 ≤ n) (h8 : n < 8) (hm : A.bufs.length ≤ 100000) (W W' : World) (h : StoreAt W s A rs) (hb : Below W.heap.size W W') (r : Row) (b : Buf) (hB : BufAt W' r b) (hg : W.heap.size ≤ r.g)
    (hl : ∀ q, r.lv.ownBlock = some q → W.heap.size ≤ q) (hp : ∀ q, r.pv.ownBlock = some q → W.heap.size ≤ q) :
    Calls Try.prog 51 #[.pointer (some ⟨s, 0, none⟩), .int .i64 n, .pointer (some ⟨r.g, 0, none⟩)] W' fun e w' => e = .returned (.tuple #[]) ∧ (StoreAt w' s (A.fresh n b) (rs ++ [r]) ∧ Ran s rs W (rs ++ [r]) w') ∧ Kept [s] W' w' := by
  have hi : (n.toNat : Int) = n := by omega
  have hm' := below_look hb h.main
  have hoff := hA.off
  have hmade : A.made = (A.bufs.length : Int) + A.off := rfl
  have HC := made_any s (nsOf A rs) A.made A.shared (by rw [nsOf_length]; exact hA.eight) n.toNat (by omega) r.g (by omega) (by omega) W' hm'
  rw [hi] at HC
  refine HC.mono ?_
  rintro e w' ⟨rfl, h1, hK⟩
  have hne : r.g ≠ s := fun e => by have := heap_lt h.main; omega
  have hBt : BufAt w' r b := hB.same (fun q hq he => hK.block q hq (by
    have hs := heap_lt h.main
    rcases he with e | e | e
    · simp; omega
    · have := hl q e; simp; omega
    · have := hp q e; simp; omega))
  have hKK := ((Nm.Kept.refl [s] W).below hb).trans hK
  refine ⟨rfl, ⟨h.fresh hKK hBt hg hl hp hA h1, Ran.of hKK (fun q hq => Or.inl (Or.inl (by simpa using hq))) (fun q hq => ?_)⟩, hK⟩
  rcases foot_push hq with e | e | e | e
  · exact Or.inl e
  · exact Or.inr (by omega)
  · exact Or.inr (hl q e)
  · exact Or.inr (hp q e)
theorem form_to {o : OpV} (h : formS o = true) : 0 ≤ o.to ∧ o.to < 8 := by
  unfold formS at h
  simp only [Bool.and_eq_true] at h
  have := h.1.1.1.2
  unfold nmOk isNm at this
  simp only [Bool.or_eq_true, Bool.and_eq_true, Bool.not_eq_true', decide_eq_true_eq] at this
  omega
theorem bufAt_nil {w : World} {g : Nat} {kd seed : Int} {lv : Value} {l : List ByteArray} (h : w.heap[g]? = some (.cells (bcells kd lv seed 0 (.slice none 0 0)) 87 (0, 0))) (ho : w.ownsRow 0 9 1 lv l.length (strs l)) : BufAt w ⟨g, lv, .slice none 0 0⟩ ⟨kd, l, seed, []⟩ :=
  ⟨h, ho, own_nil _ _ _ _, fun _ => rfl⟩
set_option maxHeartbeats 4000000 in
set_option maxRecDepth 100000 in
theorem Do_1 (s : Nat) (A : Sto) (rs : List Row) (hA : Good A) (hm : A.bufs.length ≤ 100000) (o : OpV) (hk : o.kind = 1) (hr : refA A o = 0) (w : World) (h : StoreAt w s A rs) :
    Calls Try.prog 19 #[.pointer (some ⟨s, 0, none⟩), .agg o.cells] w fun e w' => DoPost s A rs o w e w' := by
  have HS := Lib.hid h
  have HA := Lib.hid hA
  have HR := Lib.hid hr
  have hf : formS o = true := by
    cases hq : formS o with
    | true => rfl
    | false => unfold refA at hr; rw [hq] at hr; simp at hr
  have hfr := form_fr hf
  have HF := Lib.hid hf
  have HFT : Hid (∀ q, Foot s rs q → q < w.heap.size) := Lib.hid (fun q hq => h.lt hq)
  have hsw : s < w.heap.size := HFT.out s (Or.inl rfl)
  clear h hA hf
  go_enter Try.func19, Try.ntmps19
  go_upto_region 1 with (fail)
  have hb0 := (Below.refl w.heap.size w).alloc (Nat.le_refl _) (.cells o.cells 39 (0, 0))
  refine wp_world (fun W => Below w.heap.size w W ∧ W.heap[w.heap.size]? = some (.cells o.cells 39 (0, 0))) ⟨hb0, ha_new rfl⟩ ?_
  clear hb0
  rintro W ⟨hb, h1⟩
  replace HS := Lib.hid (HS.out.below hb)
  apply wp_region_lit
  refine wl_k rfl (fun K hK => ?_); go_simp; refine hK _ ?_; clear hK K
  ((with_reducible apply wl_rowG); exact rfl; exact rfl; exact rowO h1)
  simp only [Zq]
  refine wl_ck rfl (fun K hK => ?_); go_simp; refine ⟨_, _, ⟨rfl, rfl⟩, hK _ _ ⟨_, refused_any s A rs HA.out o _ HS.out, ?_⟩⟩; clear hK K; rintro e w1 ⟨rfl, hb1⟩; refine ⟨_, rfl, ?_⟩; simp only [Zq]
  rw [hr]
  replace h1 := below_look hb1 h1
  replace HS := Lib.hid (HS.out.below (hb1.mono (Nat.le_refl _)))
  replace hb := hb.trans (hb1.mono hb.size)
  clear hb1 hr
  obtain ⟨kind, fr, to, at_, n, key⟩ := o
  simp only at hk
  subst hk
  simp only at hfr
  obtain ⟨f, rfl⟩ : ∃ f : Nat, fr = (f : Int) := ⟨fr.toNat, by omega⟩
  have hf8 : (f : Int) < 8 := by omega
  have hnm := nsOf_get (rs := rs) (id_names HA.out hfr.1 hfr.2)
  rw [Int.toNat_natCast] at hnm
  clear hfr
  have c1 := (op_cell h1).2.1
  have c6 := sc_name HS.out.main hnm
  go_upto_region 4 with (fail)
  refine wp_region_held_drew (S := Kept [] w1) mixed (Kept.drew [] w1) (fun hS => ?_)
  refine hk3 (i := 0) rfl (by kernel_rfl) Zh hS rfl (fun K hK => ?_); go_simp; refine hK _ ?_; clear hK K; try simp only [Zq]
  refine hk3 (i := 1) rfl (by kernel_rfl) Zh hS rfl (fun K hK => ?_); go_simp; refine hK _ ?_; clear hK K; try simp only [Zq]
  refine hv3 (i := 2) rfl (by kernel_rfl) Zg hS rfl (fun w' hw' => ex_one rfl (one3 (hw'.cell c1 (by simp <;> omega)))) ?_; try simp only [Zq]
  refine hk3 (i := 3) rfl (by kernel_rfl) Zh hS rfl (fun K hK => ?_); go_simp; refine hK _ ?_; clear hK K; try simp only [Zq]
  refine hk3 (i := 4) rfl (by kernel_rfl) Zh hS rfl (fun K hK => ?_); go_simp; refine hK _ ?_; clear hK K; try simp only [Zq]
  refine hk3 (i := 5) rfl (by kernel_rfl) Zh hS rfl (fun K hK => ?_); go_simp; refine hK _ ?_; clear hK K; try simp only [Zq]
  refine hv3 (i := 6) rfl (by kernel_rfl) Zg hS rfl (fun w' hw' => ex_one rfl (one80 (hw'.cell c6 (by simp <;> omega)))) ?_; try simp only [Zq]
  refine hk3 (i := 7) rfl (by kernel_rfl) Zh hS rfl (fun K hK => ?_); go_simp; refine hK _ ?_; clear hK K; try simp only [Zq]
  refine wpAnyH_done (by kernel_rfl) ?_ _
  replace HS := Lib.hid (HS.out.below (Below.refl w1.heap.size w1).drew)
  replace hb := hb.drew
  replace h1 : w1.drew.heap[w.heap.size]? = _ := h1
  clear c1 c6 hS
  generalize w1.drew = W at *
  have hcs := op_cell h1
  obtain ⟨c0, c1, c2, c3, c4, c5⟩ := hcs
  simp only at c0 c1 c2 c3 c4 c5
  have hto := form_to HF.out
  simp only at hto
  go_upto_region 7 with (fail)
  apply wp_region_lit
  iterate 2 (refine wl_k rfl (fun K hK => ?_); go_simp; refine hK _ ?_; clear hK K)
  ((with_reducible apply wl_oneG); exact rfl; exact rfl; exact one3 c2)
  refine wl_val rfl (ex_build 87 _ rfl (L := [(0, .int .i64 1)]) rfl built87_1) ?_
  simp only [Zq]
  refine wl_w rfl (ex_box87 _ rfl rfl) ?_
  simp only [Zq]
  have hbn := (Below.refl W.heap.size W).alloc (Nat.le_refl _) (.cells (bcells 1 (.slice none 0 0) 0 0 (.slice none 0 0)) 87)
  have hBt := bufAt_nil (w := W.alloc (.cells (bcells 1 (.slice none 0 0) 0 0 (.slice none 0 0)) 87)) (g := W.heap.size) (l := []) (ha_new rfl) (own_nil _ _ _ _)
  have HC := Lib.hid (made_at s A rs HA.out to hto.1 hto.2 hm W _ HS.out hbn _ _ hBt (Nat.le_refl _) (by simp [Value.ownBlock]) (by simp [Value.ownBlock]))
  clear hbn hBt
  refine wl_ck rfl (fun K hK => ?_); go_simp; refine ⟨_, _, ⟨rfl, rfl⟩, hK _ _ ⟨_, HC.out, ?_⟩⟩; clear hK K; rintro e w2 ⟨rfl, hfin, -⟩; refine ⟨_, rfl, ?_⟩; simp only [Zq]
  clear HC
  have HFIN := Lib.hid hfin
  clear hfin
  go_wp2_with fail
  go_ret
  exact ⟨congrArg (fun z => Ending.returned (Value.int .i64 z)) HR.out.symm, _, by rw [doA_ok HR.out]; exact HFIN.out.1, (Ran.ofBelow hb).trans HFIN.out.2⟩
set_option maxHeartbeats 4000000 in
set_option maxRecDepth 100000 in
theorem Do_8 (s : Nat) (A : Sto) (rs : List Row) (hA : Good A) (hm : A.bufs.length ≤ 100000) (o : OpV) (hk : o.kind = 8) (hr : refA A o = 0) (w : World) (h : StoreAt w s A rs) :
    Calls Try.prog 19 #[.pointer (some ⟨s, 0, none⟩), .agg o.cells] w fun e w' => DoPost s A rs o w e w' := by
  have HS := Lib.hid h
  have HA := Lib.hid hA
  have HR := Lib.hid hr
  have hf : formS o = true := by
    cases hq : formS o with
    | true => rfl
    | false => unfold refA at hr; rw [hq] at hr; simp at hr
  have hfr := form_fr hf
  have HF := Lib.hid hf
  have HFT : Hid (∀ q, Foot s rs q → q < w.heap.size) := Lib.hid (fun q hq => h.lt hq)
  have hsw : s < w.heap.size := HFT.out s (Or.inl rfl)
  clear h hA hf
  go_enter Try.func19, Try.ntmps19
  go_upto_region 1 with (fail)
  have hb0 := (Below.refl w.heap.size w).alloc (Nat.le_refl _) (.cells o.cells 39 (0, 0))
  refine wp_world (fun W => Below w.heap.size w W ∧ W.heap[w.heap.size]? = some (.cells o.cells 39 (0, 0))) ⟨hb0, ha_new rfl⟩ ?_
  clear hb0
  rintro W ⟨hb, h1⟩
  replace HS := Lib.hid (HS.out.below hb)
  apply wp_region_lit
  refine wl_k rfl (fun K hK => ?_); go_simp; refine hK _ ?_; clear hK K
  ((with_reducible apply wl_rowG); exact rfl; exact rfl; exact rowO h1)
  simp only [Zq]
  refine wl_ck rfl (fun K hK => ?_); go_simp; refine ⟨_, _, ⟨rfl, rfl⟩, hK _ _ ⟨_, refused_any s A rs HA.out o _ HS.out, ?_⟩⟩; clear hK K; rintro e w1 ⟨rfl, hb1⟩; refine ⟨_, rfl, ?_⟩; simp only [Zq]
  rw [hr]
  replace h1 := below_look hb1 h1
  replace HS := Lib.hid (HS.out.below (hb1.mono (Nat.le_refl _)))
  replace hb := hb.trans (hb1.mono hb.size)
  clear hb1 hr
  obtain ⟨kind, fr, to, at_, n, key⟩ := o
  simp only at hk
  subst hk
  simp only at hfr
  obtain ⟨f, rfl⟩ : ∃ f : Nat, fr = (f : Int) := ⟨fr.toNat, by omega⟩
  have hf8 : (f : Int) < 8 := by omega
  have hnm := nsOf_get (rs := rs) (id_names HA.out hfr.1 hfr.2)
  rw [Int.toNat_natCast] at hnm
  clear hfr
  have c1 := (op_cell h1).2.1
  have c6 := sc_name HS.out.main hnm
  go_upto_region 4 with (fail)
  refine wp_region_held_drew (S := Kept [] w1) mixed (Kept.drew [] w1) (fun hS => ?_)
  refine hk3 (i := 0) rfl (by kernel_rfl) Zh hS rfl (fun K hK => ?_); go_simp; refine hK _ ?_; clear hK K; try simp only [Zq]
  refine hk3 (i := 1) rfl (by kernel_rfl) Zh hS rfl (fun K hK => ?_); go_simp; refine hK _ ?_; clear hK K; try simp only [Zq]
  refine hv3 (i := 2) rfl (by kernel_rfl) Zg hS rfl (fun w' hw' => ex_one rfl (one3 (hw'.cell c1 (by simp <;> omega)))) ?_; try simp only [Zq]
  refine hk3 (i := 3) rfl (by kernel_rfl) Zh hS rfl (fun K hK => ?_); go_simp; refine hK _ ?_; clear hK K; try simp only [Zq]
  refine hk3 (i := 4) rfl (by kernel_rfl) Zh hS rfl (fun K hK => ?_); go_simp; refine hK _ ?_; clear hK K; try simp only [Zq]
  refine hk3 (i := 5) rfl (by kernel_rfl) Zh hS rfl (fun K hK => ?_); go_simp; refine hK _ ?_; clear hK K; try simp only [Zq]
  refine hv3 (i := 6) rfl (by kernel_rfl) Zg hS rfl (fun w' hw' => ex_one rfl (one80 (hw'.cell c6 (by simp <;> omega)))) ?_; try simp only [Zq]
  refine hk3 (i := 7) rfl (by kernel_rfl) Zh hS rfl (fun K hK => ?_); go_simp; refine hK _ ?_; clear hK K; try simp only [Zq]
  refine wpAnyH_done (by kernel_rfl) ?_ _
  replace HS := Lib.hid (HS.out.below (Below.refl w1.heap.size w1).drew)
  replace hb := hb.drew
  replace h1 : w1.drew.heap[w.heap.size]? = _ := h1
  clear c1 c6 hS
  generalize w1.drew = W at *
  have hcs := op_cell h1
  obtain ⟨c0, c1, c2, c3, c4, c5⟩ := hcs
  simp only at c0 c1 c2 c3 c4 c5
  have hto := form_to HF.out
  simp only at hto
  go_upto_region 27 with (fail)
  refine wp_region_held_drew (S := Kept [s] W) mixed (Kept.drew [s] W) (fun hS => ?_)
  refine hk3 (i := 0) rfl (by kernel_rfl) Zh hS rfl (fun K hK => ?_); go_simp; refine hK _ ?_; clear hK K; try simp only [Zq]
  refine hk3 (i := 1) rfl (by kernel_rfl) Zh hS rfl (fun K hK => ?_); go_simp; refine hK _ ?_; clear hK K; try simp only [Zq]
  refine hv3 (i := 2) rfl (by kernel_rfl) Zg hS rfl (fun w' hw' => ex_one rfl (one3 (hw'.cell c2 (by simp <;> omega)))) ?_; try simp only [Zq]
  refine hk3 (i := 3) rfl (by kernel_rfl) Zh hS rfl (fun K hK => ?_); go_simp; refine hK _ ?_; clear hK K; try simp only [Zq]
  refine hv3 (i := 4) rfl (by kernel_rfl) Zg hS rfl (fun w' hw' => ex_one rfl (one3 (hw'.cell c4 (by simp <;> omega)))) ?_; try simp only [Zq]
  have hbn1 := (Below.refl W.heap.size W).drew.alloc (Nat.le_refl _) (.cells (tcells (List.replicate 4 none)).toArray 95)
  have hbn1' := (Below.refl W.drew.heap.size W.drew).alloc (Nat.le_refl _) (.cells (tcells (List.replicate 4 none)).toArray 95)
  refine ha_do (i := 5) (by kernel_rfl) rfl rfl (ex_mk85 rfl rfl) (hS.below hbn1') ?_; try simp only [Zq]
  replace hS := hS.below hbn1'
  have hown : (W.drew.alloc (.cells (tcells (List.replicate 4 none)).toArray 95)).ownsRow W.heap.size 95 3 (.slice (some ⟨W.drew.heap.size, 0, none⟩) 4 4) 4 (tcells (List.replicate 4 none)) := ⟨by simp [tcells_length], Or.inr ⟨_, 4, _, rfl, Nat.le_refl _, ha_new rfl, Nat.le_refl _, by unfold maxLen; omega, by simp [tcells_length], by simp [List.take_of_length_le, tcells_length]⟩⟩
  have HOWN := Lib.hid hown
  clear hown hbn1'
  generalize hW1 : W.drew.alloc (.cells (tcells (List.replicate 4 none)).toArray 95) = W1 at *
  clear hW1
  refine hv3 (i := 6) rfl (by kernel_rfl) Zg hS rfl (fun w' _ => ex_build 87 _ rfl (L := [(0, .int .i64 2), (2, .int .i64 n), (4, .slice (some ⟨W.drew.heap.size, 0, none⟩) 4 4)]) rfl (built87_t n _ _ _)) ?_; try simp only [Zq]
  have hbn2 := (Below.refl W1.heap.size W1).alloc (Nat.le_refl _) (.cells (bcells 2 (.slice none 0 0) n 0 (.slice (some ⟨W.drew.heap.size, 0, none⟩) 4 4)) 87)
  refine ha_do (i := 7) (by kernel_rfl) rfl rfl (ex_box87 _ rfl rfl) (hS.below hbn2) ?_; try simp only [Zq]
  replace hS := hS.below hbn2
  have hLW := hbn1.size
  have hBt : BufAt (W1.alloc (.cells (bcells 2 (.slice none 0 0) n 0 (.slice (some ⟨W.drew.heap.size, 0, none⟩) 4 4)) 87)) ⟨W1.heap.size, .slice none 0 0, .slice (some ⟨W.drew.heap.size, 0, none⟩) 4 4⟩ ⟨2, [], n, List.replicate 4 none⟩ :=
    ⟨ha_new rfl, own_nil _ _ _ _, own_weak (own_below HOWN.out hbn2) (Nat.zero_le _), fun e => by simp at e⟩
  have HC := Lib.hid (made_at s A rs HA.out to hto.1 hto.2 hm W _ HS.out (hbn1.trans (hbn2.mono hLW)) _ _ hBt hLW (by simp [Value.ownBlock]) (fun q hq => by simp [Value.ownBlock] at hq; subst hq; exact Nat.le_refl _))
  clear hBt hbn1 hbn2
  refine ha_call (i := 8) (by kernel_rfl) rfl rfl (fun K hK => ?_); go_simp; refine ⟨_, _, ⟨rfl, rfl⟩, hK _ _ ⟨_, HC.out, ?_⟩⟩; clear hK K; rintro e w2 ⟨rfl, hfin, hKs⟩
  refine ⟨_, rfl, hS.trans hKs, ?_⟩
  replace hS := hS.trans hKs
  try simp only [Zq]
  refine wpAnyH_done (by kernel_rfl) ?_ _
  clear HC
  have HFIN := Lib.hid hfin
  clear hfin
  go_wp2_with fail
  go_ret
  exact ⟨congrArg (fun z => Ending.returned (Value.int .i64 z)) HR.out.symm, _, by rw [doA_ok HR.out]; exact HFIN.out.1, (Ran.ofBelow hb).trans HFIN.out.2⟩
/-- a name refers to what another one refers to -/
theorem StoreAt.renamed {W : World} {s : Nat} {A : Sto} {rs : List Row} (h : StoreAt W s A rs) (o : Option Nat) {n : Nat} (hn : n < A.names.length) :
    StoreAt (W.setCell ⟨s, n, none⟩ (bp (o.map fun k => gAt rs k))) s { A with names := A.names.set n o } rs ∧ Ran s rs W rs (W.setCell ⟨s, n, none⟩ (bp (o.map fun k => gAt rs k))) := by
  have hm := hs_new h.main (i := n) (v := bp (o.map fun k => gAt rs k))
  rw [scells_set (by rw [nsOf_length]; exact hn)] at hm
  have hty : ∀ (j : Nat) (x : Row), rs[j]? = some x → x.g ≠ s ∧ x.lv.ownBlock ≠ some s ∧ x.pv.ownBlock ≠ some s := fun j x hx => by
    have hj := (List.getElem?_eq_some_iff.1 hx).1
    have hX := h.rows j x _ hx (List.getElem?_eq_getElem (show j < A.bufs.length by rw [← h.len]; exact hj))
    have hm0 := h.main
    refine ⟨fun e => ?_, fun e => ?_, fun e => ?_⟩
    · have := hX.1; rw [e, hm0] at this; simp only [Option.some.injEq, Obj.cells.injEq] at this; exact absurd this.2.1 (by decide)
    · obtain ⟨_, c, h1⟩ := own_block hX.2.1 e; rw [hm0] at h1; simp only [Option.some.injEq, Obj.cells.injEq] at h1; exact absurd h1.2.1 (by decide)
    · obtain ⟨_, c, h1⟩ := own_block hX.2.2.1 e; rw [hm0] at h1; simp only [Option.some.injEq, Obj.cells.injEq] at h1; exact absurd h1.2.1 (by decide)
  refine ⟨⟨?_, h.len, fun k r b hr hb => (h.rows k r b hr hb).same (fun q hq he => heap_setCell_other _ _ _ _ (fun e => ?_)), h.gs, h.ls, h.ps⟩, Ran.of ((Nm.Kept.refl [s] W).setCell (by simp) n _) (fun q hq => Or.inl (Or.inl (by simpa using hq))) (fun q hq => Or.inl hq)⟩
  · rw [hm]
    unfold nsOf
    simp only [List.map_set]
    rfl
  · have e' : q = s := e
    obtain ⟨t1, t2, t3⟩ := hty k r hr
    subst e'
    rcases he with e | e | e
    · exact t1 e.symm
    · exact t2 e
    · exact t3 e
set_option maxHeartbeats 4000000 in
set_option maxRecDepth 100000 in
theorem Do_2 (s : Nat) (A : Sto) (rs : List Row) (hA : Good A) (o : OpV) (hk : o.kind = 2) (hr : refA A o = 0) (w : World) (h : StoreAt w s A rs) :
    Calls Try.prog 19 #[.pointer (some ⟨s, 0, none⟩), .agg o.cells] w fun e w' => DoPost s A rs o w e w' := by
  have HS := Lib.hid h
  have HA := Lib.hid hA
  have HR := Lib.hid hr
  have hf : formS o = true := by
    cases hq : formS o with
    | true => rfl
    | false => unfold refA at hr; rw [hq] at hr; simp at hr
  have hfr := form_fr hf
  have HF := Lib.hid hf
  have HFT : Hid (∀ q, Foot s rs q → q < w.heap.size) := Lib.hid (fun q hq => h.lt hq)
  have hsw : s < w.heap.size := HFT.out s (Or.inl rfl)
  clear h hA hf
  go_enter Try.func19, Try.ntmps19
  go_upto_region 1 with (fail)
  have hb0 := (Below.refl w.heap.size w).alloc (Nat.le_refl _) (.cells o.cells 39 (0, 0))
  refine wp_world (fun W => Below w.heap.size w W ∧ W.heap[w.heap.size]? = some (.cells o.cells 39 (0, 0))) ⟨hb0, ha_new rfl⟩ ?_
  clear hb0
  rintro W ⟨hb, h1⟩
  replace HS := Lib.hid (HS.out.below hb)
  apply wp_region_lit
  refine wl_k rfl (fun K hK => ?_); go_simp; refine hK _ ?_; clear hK K
  ((with_reducible apply wl_rowG); exact rfl; exact rfl; exact rowO h1)
  simp only [Zq]
  refine wl_ck rfl (fun K hK => ?_); go_simp; refine ⟨_, _, ⟨rfl, rfl⟩, hK _ _ ⟨_, refused_any s A rs HA.out o _ HS.out, ?_⟩⟩; clear hK K; rintro e w1 ⟨rfl, hb1⟩; refine ⟨_, rfl, ?_⟩; simp only [Zq]
  rw [hr]
  replace h1 := below_look hb1 h1
  replace HS := Lib.hid (HS.out.below (hb1.mono (Nat.le_refl _)))
  replace hb := hb.trans (hb1.mono hb.size)
  clear hb1 hr
  obtain ⟨kind, fr, to, at_, n, key⟩ := o
  simp only at hk
  subst hk
  simp only at hfr
  obtain ⟨f, rfl⟩ : ∃ f : Nat, fr = (f : Int) := ⟨fr.toNat, by omega⟩
  have hf8 : (f : Int) < 8 := by omega
  have hnm := nsOf_get (rs := rs) (id_names HA.out hfr.1 hfr.2)
  rw [Int.toNat_natCast] at hnm
  clear hfr
  have c1 := (op_cell h1).2.1
  have c6 := sc_name HS.out.main hnm
  go_upto_region 4 with (fail)
  refine wp_region_held_drew (S := Kept [] w1) mixed (Kept.drew [] w1) (fun hS => ?_)
  refine hk3 (i := 0) rfl (by kernel_rfl) Zh hS rfl (fun K hK => ?_); go_simp; refine hK _ ?_; clear hK K; try simp only [Zq]
  refine hk3 (i := 1) rfl (by kernel_rfl) Zh hS rfl (fun K hK => ?_); go_simp; refine hK _ ?_; clear hK K; try simp only [Zq]
  refine hv3 (i := 2) rfl (by kernel_rfl) Zg hS rfl (fun w' hw' => ex_one rfl (one3 (hw'.cell c1 (by simp <;> omega)))) ?_; try simp only [Zq]
  refine hk3 (i := 3) rfl (by kernel_rfl) Zh hS rfl (fun K hK => ?_); go_simp; refine hK _ ?_; clear hK K; try simp only [Zq]
  refine hk3 (i := 4) rfl (by kernel_rfl) Zh hS rfl (fun K hK => ?_); go_simp; refine hK _ ?_; clear hK K; try simp only [Zq]
  refine hk3 (i := 5) rfl (by kernel_rfl) Zh hS rfl (fun K hK => ?_); go_simp; refine hK _ ?_; clear hK K; try simp only [Zq]
  refine hv3 (i := 6) rfl (by kernel_rfl) Zg hS rfl (fun w' hw' => ex_one rfl (one80 (hw'.cell c6 (by simp <;> omega)))) ?_; try simp only [Zq]
  refine hk3 (i := 7) rfl (by kernel_rfl) Zh hS rfl (fun K hK => ?_); go_simp; refine hK _ ?_; clear hK K; try simp only [Zq]
  refine wpAnyH_done (by kernel_rfl) ?_ _
  replace HS := Lib.hid (HS.out.below (Below.refl w1.heap.size w1).drew)
  replace hb := hb.drew
  replace h1 : w1.drew.heap[w.heap.size]? = _ := h1
  clear c1 c6 hS
  generalize w1.drew = W at *
  have hcs := op_cell h1
  obtain ⟨c0, c1, c2, c3, c4, c5⟩ := hcs
  simp only at c0 c1 c2 c3 c4 c5
  have hto := form_to HF.out
  simp only at hto
  obtain ⟨t, rfl⟩ : ∃ t : Nat, to = (t : Int) := ⟨to.toNat, by omega⟩
  have ht8 : (t : Int) < 8 := by omega
  have ht8' : t < A.names.length := by rw [HA.out.eight]; omega
  clear hto
  have hsn : w.heap.size ∉ [s] := by simp; omega
  have hfin := (HS.out.below (Below.refl W.heap.size W).drew).renamed (A.id (f : Int)) ht8'
  have hcell := sc_name (HS.out.below (Below.refl W.heap.size W).drew).main (nsOf_get (List.getElem?_eq_getElem ht8'))
  have hfro : W.drew.frozen? ⟨s, t, none⟩ = false := frozen_of_row _ _ _ _ _ HS.out.main
  generalize (A.id (f : Int)).map (fun k => gAt rs k) = P0 at *
  go_upto_region 9 with (fail)
  refine wp_region_held_drew (S := Kept [s] W) mixed (Kept.drew [s] W) (fun hS => ?_)
  refine hk3 (i := 0) rfl (by kernel_rfl) Zh hS rfl (fun K hK => ?_); go_simp; refine hK _ ?_; clear hK K; try simp only [Zq]
  refine hk3 (i := 1) rfl (by kernel_rfl) Zh hS rfl (fun K hK => ?_); go_simp; refine hK _ ?_; clear hK K; try simp only [Zq]
  (refine hv3 (i := 2) rfl (by kernel_rfl) Zg hS rfl (fun w' hw' => ex_one rfl (one3 (hw'.cell c2 hsn))) ?_; try simp only [Zq])
  refine hk3 (i := 3) rfl (by kernel_rfl) Zh hS rfl (fun K hK => ?_); go_simp; refine hK _ ?_; clear hK K; try simp only [Zq]
  refine hk3 (i := 4) rfl (by kernel_rfl) Zh hS rfl (fun K hK => ?_); go_simp; refine hK _ ?_; clear hK K; try simp only [Zq]
  refine hk3 (i := 5) rfl (by kernel_rfl) Zh hS rfl (fun K hK => ?_); go_simp; refine hK _ ?_; clear hK K; try simp only [Zq]
  refine hk3 (i := 6) rfl (by kernel_rfl) Zh hS rfl (fun K hK => ?_); go_simp; refine hK _ ?_; clear hK K; try simp only [Zq]
  refine ha_storeC (i := 7) (by kernel_rfl) rfl rfl 80 _ _ rfl s t (bp P0) rfl rfl info80 rfl (by rw [hcell]; rfl) hfro (hS.setCell (by simp) t _) (fun hS => ?_); try simp only [Zq]
  refine wpAnyH_done (by kernel_rfl) ?_ _
  replace hb := hb.drew
  clear hcell hfro c0 c1 c2 c3 c4 c5 hS
  have HFIN := Lib.hid hfin
  clear hfin
  go_wp2_with fail
  go_ret
  exact ⟨congrArg (fun z => Ending.returned (Value.int .i64 z)) HR.out.symm, _, by rw [doA_ok HR.out]; exact HFIN.out.1, (Ran.ofBelow hb).trans HFIN.out.2⟩
set_option maxHeartbeats 4000000 in
set_option maxRecDepth 100000 in
theorem Do_6 (s : Nat) (A : Sto) (rs : List Row) (hA : Good A) (hm : A.bufs.length ≤ 100000) (o : OpV) (hk : o.kind = 6) (hr : refA A o = 0) (w : World) (h : StoreAt w s A rs) :
    Calls Try.prog 19 #[.pointer (some ⟨s, 0, none⟩), .agg o.cells] w fun e w' => DoPost s A rs o w e w' := by
  have hlim : formS o = true → (A.buf o.fr).kd = 1 → 0 ≤ o.at_ ∧ 0 ≤ o.n ∧ o.at_ + o.n ≤ ((A.buf o.fr).l.length : Int) := fun hf hkd => by
    have h2 := hr
    unfold refA at h2
    simp only [hf, hk, show useG 6 = ⟨true, true, true, true, false, 1⟩ from rfl, hkd] at h2
    simp at h2
    omega
  have HLM := Lib.hid hlim
  clear hlim
  have HS := Lib.hid h
  have HA := Lib.hid hA
  have HR := Lib.hid hr
  have hf : formS o = true := by
    cases hq : formS o with
    | true => rfl
    | false => unfold refA at hr; rw [hq] at hr; simp at hr
  have hfr := form_fr hf
  have HF := Lib.hid hf
  have HFT : Hid (∀ q, Foot s rs q → q < w.heap.size) := Lib.hid (fun q hq => h.lt hq)
  have hsw : s < w.heap.size := HFT.out s (Or.inl rfl)
  clear h hA hf
  go_enter Try.func19, Try.ntmps19
  go_upto_region 1 with (fail)
  have hb0 := (Below.refl w.heap.size w).alloc (Nat.le_refl _) (.cells o.cells 39 (0, 0))
  refine wp_world (fun W => Below w.heap.size w W ∧ W.heap[w.heap.size]? = some (.cells o.cells 39 (0, 0))) ⟨hb0, ha_new rfl⟩ ?_
  clear hb0
  rintro W ⟨hb, h1⟩
  replace HS := Lib.hid (HS.out.below hb)
  apply wp_region_lit
  refine wl_k rfl (fun K hK => ?_); go_simp; refine hK _ ?_; clear hK K
  ((with_reducible apply wl_rowG); exact rfl; exact rfl; exact rowO h1)
  simp only [Zq]
  refine wl_ck rfl (fun K hK => ?_); go_simp; refine ⟨_, _, ⟨rfl, rfl⟩, hK _ _ ⟨_, refused_any s A rs HA.out o _ HS.out, ?_⟩⟩; clear hK K; rintro e w1 ⟨rfl, hb1⟩; refine ⟨_, rfl, ?_⟩; simp only [Zq]
  rw [hr]
  replace h1 := below_look hb1 h1
  replace HS := Lib.hid (HS.out.below (hb1.mono (Nat.le_refl _)))
  replace hb := hb.trans (hb1.mono hb.size)
  clear hb1 hr
  obtain ⟨kind, fr, to, at_, n, key⟩ := o
  simp only at hk
  subst hk
  simp only at hfr
  obtain ⟨f, rfl⟩ : ∃ f : Nat, fr = (f : Int) := ⟨fr.toNat, by omega⟩
  have hf8 : (f : Int) < 8 := by omega
  have hnm := nsOf_get (rs := rs) (id_names HA.out hfr.1 hfr.2)
  rw [Int.toNat_natCast] at hnm
  clear hfr
  have c1 := (op_cell h1).2.1
  have c6 := sc_name HS.out.main hnm
  go_upto_region 4 with (fail)
  refine wp_region_held_drew (S := Kept [] w1) mixed (Kept.drew [] w1) (fun hS => ?_)
  refine hk3 (i := 0) rfl (by kernel_rfl) Zh hS rfl (fun K hK => ?_); go_simp; refine hK _ ?_; clear hK K; try simp only [Zq]
  refine hk3 (i := 1) rfl (by kernel_rfl) Zh hS rfl (fun K hK => ?_); go_simp; refine hK _ ?_; clear hK K; try simp only [Zq]
  refine hv3 (i := 2) rfl (by kernel_rfl) Zg hS rfl (fun w' hw' => ex_one rfl (one3 (hw'.cell c1 (by simp <;> omega)))) ?_; try simp only [Zq]
  refine hk3 (i := 3) rfl (by kernel_rfl) Zh hS rfl (fun K hK => ?_); go_simp; refine hK _ ?_; clear hK K; try simp only [Zq]
  refine hk3 (i := 4) rfl (by kernel_rfl) Zh hS rfl (fun K hK => ?_); go_simp; refine hK _ ?_; clear hK K; try simp only [Zq]
  refine hk3 (i := 5) rfl (by kernel_rfl) Zh hS rfl (fun K hK => ?_); go_simp; refine hK _ ?_; clear hK K; try simp only [Zq]
  refine hv3 (i := 6) rfl (by kernel_rfl) Zg hS rfl (fun w' hw' => ex_one rfl (one80 (hw'.cell c6 (by simp <;> omega)))) ?_; try simp only [Zq]
  refine hk3 (i := 7) rfl (by kernel_rfl) Zh hS rfl (fun K hK => ?_); go_simp; refine hK _ ?_; clear hK K; try simp only [Zq]
  refine wpAnyH_done (by kernel_rfl) ?_ _
  replace HS := Lib.hid (HS.out.below (Below.refl w1.heap.size w1).drew)
  replace hb := hb.drew
  replace h1 : w1.drew.heap[w.heap.size]? = _ := h1
  clear c1 c6 hS
  generalize w1.drew = W at *
  have hcs := op_cell h1
  obtain ⟨c0, c1, c2, c3, c4, c5⟩ := hcs
  simp only at c0 c1 c2 c3 c4 c5
  have hkd : (A.buf (f : Int)).kd = 1 := by
    have := HR.out
    apply Classical.byContradiction
    intro hne
    unfold refA at this
    rw [HF.out] at this
    simp only [Bool.true_eq_false, if_false] at this
    rw [if_pos ⟨by decide, hne⟩] at this
    cases this
  obtain ⟨k, hk⟩ : ∃ k, A.id (f : Int) = some k := by
    cases hq : A.id (f : Int) with
    | none => rw [buf_none hq] at hkd; simp [noBuf] at hkd
    | some k => exact ⟨k, rfl⟩
  rw [hk]
  obtain ⟨r, hr, hbk, hB, hG, hns⟩ := HS.out.row HA.out hk
  simp only [Option.map_some, gAt_eq hr]
  rw [show bp (some r.g) = .pointer (some ⟨r.g, 0, none⟩) from rfl]
  have HRw := Lib.hid hr
  have HKk := Lib.hid hk
  have HBk := Lib.hid hbk
  have HB := Lib.hid hB
  have HG := Lib.hid hG
  have HKD := Lib.hid hkd
  clear hr hk hbk hB hG hns hkd hnm
  have hto := form_to HF.out
  simp only at hto
  have hlm := HLM.out HF.out HKD.out
  simp only at hlm
  have hlen := HG.out.len.1
  obtain ⟨a, rfl⟩ : ∃ a : Nat, at_ = (a : Int) := ⟨at_.toNat, by omega⟩
  obtain ⟨m, rfl⟩ : ∃ m : Nat, n = (m : Int) := ⟨n.toNat, by omega⟩
  have ham : a + m ≤ (A.buf (f : Int)).l.length := by omega
  clear hlm HLM
  obtain ⟨L1, cp1, e1, hcp, hl1⟩ := own_str2 HB.out.2.1 rfl
  obtain ⟨B1, hB1, hs1⟩ := hl1.cut (lo := a) (hi := a + m) (by omega) ham hcp
  rw [Nat.add_sub_cancel_left] at hB1 hs1
  have g1 := (bc_cell HB.out.1).2.1
  rw [e1] at g1
  have hgs : r.g ∉ [s] := by
    have := (StoreAt.rows HS.out k r _ HRw.out HBk.out).1
    simp only [List.mem_singleton]
    intro e
    rw [e, HS.out.main] at this; simp only [Option.some.injEq, Obj.cells.injEq] at this; exact absurd this.2.1 (by decide)
  replace hgs : r.g ≠ s := by simpa using hgs
  have HS1 := Lib.hid (hs1.below (Below.refl W.heap.size W).drew)
  have hwr : IntKind.i64.wrap ((a : Int) + (m : Int)) = ((a + m : Nat) : Int) := by rw [wrap_small _ (by omega) (by omega)]; omega
  have hal : a ≤ a + m := by omega
  have hac : a + m ≤ cp1 := by omega
  clear hs1 hl1 e1 HB hcp
  go_upto_region 21 with (fail)
  refine wp_region_held_drew (S := Kept [s] W) mixed (Kept.drew [s] W) (fun hS => ?_)
  refine hk3 (i := 0) rfl (by kernel_rfl) Zh hS rfl (fun K hK => ?_); go_simp; refine hK _ ?_; clear hK K; try simp only [Zq]
  refine hk3 (i := 1) rfl (by kernel_rfl) Zh hS rfl (fun K hK => ?_); go_simp; refine hK _ ?_; clear hK K; try simp only [Zq]
  refine hv3 (i := 2) rfl (by kernel_rfl) Zg hS rfl (fun w' hw' => ex_one rfl (one3 (hw'.cell c2 (by simp <;> omega)))) ?_; try simp only [Zq]
  refine hk3 (i := 3) rfl (by kernel_rfl) Zh hS rfl (fun K hK => ?_); go_simp; refine hK _ ?_; clear hK K; try simp only [Zq]
  refine hk3 (i := 4) rfl (by kernel_rfl) Zh hS rfl (fun K hK => ?_); go_simp; refine hK _ ?_; clear hK K; try simp only [Zq]
  refine hk3 (i := 5) rfl (by kernel_rfl) Zh hS rfl (fun K hK => ?_); go_simp; refine hK _ ?_; clear hK K; try simp only [Zq]
  refine hv3 (i := 6) rfl (by kernel_rfl) Zg hS rfl (fun w' hw' => ex_one rfl (one29 (hw'.cell g1 (by simp <;> omega)))) ?_; try simp only [Zq]
  refine hk3 (i := 7) rfl (by kernel_rfl) Zh hS rfl (fun K hK => ?_); go_simp; refine hK _ ?_; clear hK K; try simp only [Zq]
  refine hv3 (i := 8) rfl (by kernel_rfl) Zg hS rfl (fun w' hw' => ex_one rfl (one3 (hw'.cell c3 (by simp <;> omega)))) ?_; try simp only [Zq]
  refine hk3 (i := 9) rfl (by kernel_rfl) Zh hS rfl (fun K hK => ?_); go_simp; refine hK _ ?_; clear hK K; try simp only [Zq]
  refine hv3 (i := 10) rfl (by kernel_rfl) Zg hS rfl (fun w' hw' => ex_one rfl (one3 (hw'.cell c3 (by simp <;> omega)))) ?_; try simp only [Zq]
  refine hk3 (i := 11) rfl (by kernel_rfl) Zh hS rfl (fun K hK => ?_); go_simp; refine hK _ ?_; clear hK K; try simp only [Zq]
  refine hv3 (i := 12) rfl (by kernel_rfl) Zg hS rfl (fun w' hw' => ex_one rfl (one3 (hw'.cell c4 (by simp <;> omega)))) ?_; try simp only [Zq]
  refine hk3 (i := 13) rfl (by kernel_rfl) Zh hS rfl (fun K hK => ?_); go_simp; refine hK _ ?_; clear hK K; try simp only [Zq]
  try rw [hwr]
  refine ha_val (i := 14) (v := .slice B1 m (cp1 - a)) rfl (by kernel_rfl) (by kernel_rfl) (by kernel_rfl) (fun _ _ _ h => h) hS rfl (fun w' _ => (ex_slLH (lo := a) (hi := a + m) _ _ _ rfl rfl rfl rfl hal hac).trans (by rw [hB1])) ?_; try simp only [Zq]
  have hlen2 : (((A.buf (f : Int)).l.take (a + m)).drop a).length = m := by rw [List.length_drop, List.length_take]; omega
  refine ha_call (i := 15) (by kernel_rfl) rfl rfl (fun K hK => ?_); go_simp; refine ⟨_, _, ⟨rfl, rfl⟩, hK _ _ ⟨_, CloneS_any B1 m (cp1 - a) _ (by omega) _ HS1.out, ?_⟩⟩; clear hK K; rintro e w2 ⟨v2, rfl, ho2, hb1⟩; refine ⟨_, rfl, hS.below hb1, ?_⟩; replace hS := hS.below hb1; have hbA := hb1; clear hb1; try simp only [Zq]
  obtain ⟨B2, cp2, rfl, hs2⟩ := own_str ho2 hlen2
  have HO2 := Lib.hid ho2
  clear hs2 ho2
  have hbB : Below W.heap.size W w2 := (Below.refl W.heap.size W).drew.trans hbA
  refine hv3 (i := 16) rfl (by kernel_rfl) Zg hS rfl (fun w' _ => ex_build 87 _ rfl (L := [(0, .int .i64 1), (1, .slice B2 m cp2)]) rfl (built87_s B2 m cp2)) ?_; try simp only [Zq]
  have hbn2 := (Below.refl w2.heap.size w2).alloc (Nat.le_refl _) (.cells (bcells 1 (.slice B2 m cp2) 0 0 (.slice none 0 0)) 87)
  refine ha_do (i := 17) (by kernel_rfl) rfl rfl (ex_box87 _ rfl rfl) (hS.below hbn2) ?_; try simp only [Zq]
  replace hS := hS.below hbn2
  have hLW := hbB.size
  have hBt := bufAt_nil (w := w2.alloc (.cells (bcells 1 (.slice B2 m cp2) 0 0 (.slice none 0 0)) 87)) (g := w2.heap.size) (l := ((A.buf (f : Int)).l.take (a + m)).drop a) (kd := 1) (seed := 0) (ha_new rfl) (by rw [hlen2]; exact own_weak (own_below HO2.out hbn2) (Nat.zero_le _))
  have HC := Lib.hid (made_at s A rs HA.out to hto.1 hto.2 hm W _ HS.out (hbB.trans (hbn2.mono hLW)) _ _ hBt hLW (fun q hq => (own_block HO2.out hq).1) (by simp [Value.ownBlock]))
  clear hBt hbn2 hbA
  refine ha_call (i := 18) (by kernel_rfl) rfl rfl (fun K hK => ?_); go_simp; refine ⟨_, _, ⟨rfl, rfl⟩, hK _ _ ⟨_, HC.out, ?_⟩⟩; clear hK K; rintro e w3 ⟨rfl, hfin, hKs⟩
  refine ⟨_, rfl, hS.trans hKs, ?_⟩
  replace hS := hS.trans hKs
  try simp only [Zq]
  refine wpAnyH_done (by kernel_rfl) ?_ _
  have htd : ((A.buf (f : Int)).l.take (a + m)).drop a = ((A.buf (f : Int)).l.drop a).take m := by rw [List.drop_take, Nat.add_sub_cancel_left]
  rw [htd] at hfin
  clear HC HO2 hS c0 c1 c2 c3 c4 c5 g1 hlen2
  have HFIN := Lib.hid hfin
  clear hfin
  go_wp2_with fail
  go_ret
  exact ⟨congrArg (fun z => Ending.returned (Value.int .i64 z)) HR.out.symm, _, by rw [doA_ok HR.out]; exact HFIN.out.1, (Ran.ofBelow hb).trans HFIN.out.2⟩
theorem ba_beq (x y : ByteArray) : (x.toList == y.toList) = decide (x = y) := by
  rw [ByteArray.toList_eq, ByteArray.toList_eq]
  by_cases h : x = y
  · subst h; simp
  · rw [decide_eq_false h, beq_eq_false_iff_ne]
    exact fun e => h (ByteArray.ext (Array.toList_inj.1 e))
theorem strs_get {l : List ByteArray} {j : Nat} {x : ByteArray} (h : l[j]? = some x) : (strs l)[j]? = some (.string x) := by unfold strs; rw [List.getElem?_map, h]; rfl
/-- a text of a row of one's own changed -/
theorem own_setS {w : World} {B p cap : Nat} {l : List ByteArray} (h : w.ownsRow B 9 1 (.slice (some ⟨p, 0, none⟩) l.length cap) l.length (strs l)) (i : Nat) (k : ByteArray) :
    (w.setCell ⟨p, i, none⟩ (.string k)).ownsRow B 9 1 (.slice (some ⟨p, 0, none⟩) l.length cap) (l.set i k).length (strs (l.set i k)) := by
  rcases h.2 with ⟨h0, _⟩ | ⟨p0, cap0, cur, hv, hB, hg, h1, h2, h3, h4⟩
  · cases h0
  · cases hv
    refine ⟨by simp [strs], Or.inr ⟨p, cap, cur.setIfInBounds i (.string k), by simp, hB, hs_new hg, by simpa using h1, h2, by simpa using h3, ?_⟩⟩
    rw [Array.toList_setIfInBounds, List.length_set, List.take_set, h4]
    unfold strs
    rw [List.map_set]
theorem Delete_any (p cap B : Nat) (l : List ByteArray) (i : Nat) (hi : i < l.length) (w : World) (ho : w.ownsRow B 9 1 (.slice (some ⟨p, 0, none⟩) l.length cap) l.length (strs l)) :
    Calls Try.prog 53 #[.slice (some ⟨p, 0, none⟩) l.length cap, .int .i64 (i : Int), .int .i64 ((i + 1 : Nat) : Int)] w fun e w' => e = .returned (.slice (some ⟨p, 0, none⟩) (l.length - 1) cap) ∧
      w'.ownsRow B 9 1 (.slice (some ⟨p, 0, none⟩) (l.length - 1) cap) (l.eraseIdx i).length (strs (l.eraseIdx i)) ∧ Kept [p] w w' := by
  rcases ho.2 with ⟨h0, _⟩ | ⟨p0, cap0, cur, hv, hB, hg, h1, h2, h3, h4⟩
  · cases h0
  · cases hv
    have hcell : ∀ j, j < l.length → w.cell? ⟨p, 0 + j, none⟩ = some (.string (l.getD j ByteArray.empty)) := fun j hj => by
      rw [Nat.zero_add, cell_of_row _ _ _ _ _ _ hg, ← Array.getElem?_toList]
      have h5 := strs_get (l := l) (j := j) (x := l.getD j ByteArray.empty) (by rw [List.getD_eq_getElem?_getD, List.getElem?_eq_getElem hj]; rfl)
      rw [← h4, List.getElem?_take_of_lt (by omega)] at h5
      exact h5
    have HC := Try.slices_Delete_string_cells p 0 l.length cap i (i + 1) (fun j => l.getD j ByteArray.empty) w h1 (by unfold maxLen at h2; omega) (by omega) hi hcell (fun j hj => frozen_of_row _ _ _ _ _ hg)
    refine HC.mono ?_
    rintro e w' ⟨rfl, q, rfl⟩
    have hall : ((Lib.strsOf (fun j => l.getD j ByteArray.empty) l.length).map Go.Proofs.encStr) = strs l := by
      unfold Lib.strsOf strs
      apply List.ext_getElem?
      intro j
      by_cases hj : j < l.length
      · simp [hj, Go.Proofs.encStr]
      · rw [List.getElem?_eq_none (by simp; omega), List.getElem?_eq_none (by simp; omega)]
    have hvs : (((Lib.strsOf (fun j => l.getD j ByteArray.empty) l.length).take i ++ (Lib.strsOf (fun j => l.getD j ByteArray.empty) l.length).drop (i + 1) ++ List.replicate (i + 1 - i) []).map Go.Proofs.encStr) = strs (l.eraseIdx i) ++ [Go.Proofs.encStr []] := by
      rw [List.map_append, List.map_append, List.map_take, List.map_drop, hall, Nat.add_sub_cancel_left]
      unfold strs
      rw [List.eraseIdx_eq_take_drop_succ, List.map_append, List.map_take, List.map_drop]
      rfl
    rw [hvs]
    have hle : (l.eraseIdx i).length = l.length - 1 := by rw [List.length_eraseIdx, if_pos hi]
    have hg' : (w.drewN q).heap[p]? = some (.cells cur 9 (0, 0)) := hg
    obtain ⟨cur', g1, g2, g3⟩ := heap_setCells_row p 9 (strs (l.eraseIdx i) ++ [Go.Proofs.encStr []]) 0 (w.drewN q) cur hg'
    refine ⟨by rw [Nat.add_sub_cancel_left], ⟨by rw [strs_length, Nat.mul_one], Or.inr ⟨p, cap, cur', by rw [hle], hB, g1, by omega, h2, by rw [g2]; exact h3, ?_⟩⟩, Nm.Kept.setCells (by simp) _ _ _ ((Nm.Kept.refl [p] w).below (below_drewN (Below.refl _ _) q))⟩
    apply List.ext_getElem?
    intro j
    rw [hle, Nat.mul_one]
    by_cases hj : j < l.length - 1
    · rw [List.getElem?_take_of_lt hj, Array.getElem?_toList, g3, if_pos (by refine ⟨Nat.zero_le _, ?_, by omega⟩; simp [strs, hle]; omega), Nat.sub_zero, List.getElem?_append_left (by rw [strs_length, hle]; exact hj)]
    · rw [List.getElem?_eq_none (by simp; omega), List.getElem?_eq_none (by rw [strs_length, hle]; omega)]
theorem own_s {w : World} {b n : Nat} {v : Value} {xs : List Value} (h : w.ownsRow b 9 1 v n xs) (hn : 1 ≤ n) : ∃ p cap, v = .slice (some ⟨p, 0, none⟩) n cap ∧ n ≤ cap := by
  rcases h.2 with ⟨_, h0⟩ | ⟨p, cap, cur, hv, _, _, h1, _⟩
  · omega
  · exact ⟨p, cap, hv, h1⟩
theorem IsSorted_any (l : List ByteArray) (v : Value) (B : Nat) (hl : l.length ≤ 1000000) (w : World) (ho : w.ownsRow B 9 1 v l.length (strs l)) :
    Calls Try.prog 55 #[v] w fun e w' => e = .returned (.bool (sortedB l)) ∧ Below w.heap.size w w' := by
  rcases ho.2 with ⟨rfl, h0⟩ | ⟨p, cap, cur, rfl, hB, hg, h1, h2, h3, h4⟩
  · obtain rfl := List.length_eq_zero_iff.1 h0
    refine (Try.slices_IsSorted_string_none none 0 w).mono ?_
    rintro e w' ⟨rfl, rfl⟩
    exact ⟨rfl, Below.refl _ _⟩
  · have HC := Try.slices_IsSorted_string p 0 cap l.toArray w (fun j hj => by
      have hj' : j < l.length := by simpa using hj
      rw [Nat.zero_add, cell_of_row _ _ _ _ _ _ hg, ← Array.getElem?_toList]
      have h5 := strs_get (l := l) (j := j) (x := l.toArray[j]!) (by rw [getElem!_pos l.toArray j hj, List.getElem?_eq_getElem hj']; simp)
      rw [← h4, List.getElem?_take_of_lt (by omega)] at h5
      exact h5) (by simpa using (show l.length < 4611686018427387904 by omega))
    rw [List.size_toArray] at HC
    refine HC.mono ?_
    rintro e w' ⟨rfl, q, rfl⟩
    refine ⟨?_, below_drewN (Below.refl _ _) q⟩
    unfold sortedB
    rw [List.size_toArray]
set_option maxHeartbeats 4000000 in
set_option maxRecDepth 100000 in
theorem Do_5 (s : Nat) (A : Sto) (rs : List Row) (hA : Good A) (hm : A.bufs.length ≤ 100000) (hs0 : 0 ≤ A.shared) (hs1 : A.shared ≤ 100000) (o : OpV) (hk : o.kind = 5) (hr : refA A o = 0) (w : World) (h : StoreAt w s A rs) :
    Calls Try.prog 19 #[.pointer (some ⟨s, 0, none⟩), .agg o.cells] w fun e w' => DoPost s A rs o w e w' := by
  have hlim : formS o = true → (A.buf o.fr).kd = 1 → 0 ≤ o.at_ ∧ o.at_ < ((A.buf o.fr).l.length : Int) := fun hf hkd => by
    have h2 := hr
    unfold refA at h2
    simp only [hf, hk, show useG 5 = ⟨true, false, true, false, false, 1⟩ from rfl, hkd] at h2
    simp at h2
    omega
  have HLM := Lib.hid hlim
  clear hlim
  have HS := Lib.hid h
  have HA := Lib.hid hA
  have HR := Lib.hid hr
  have hf : formS o = true := by
    cases hq : formS o with
    | true => rfl
    | false => unfold refA at hr; rw [hq] at hr; simp at hr
  have hfr := form_fr hf
  have HF := Lib.hid hf
  have HFT : Hid (∀ q, Foot s rs q → q < w.heap.size) := Lib.hid (fun q hq => h.lt hq)
  have hsw : s < w.heap.size := HFT.out s (Or.inl rfl)
  clear h hA hf
  go_enter Try.func19, Try.ntmps19
  go_upto_region 1 with (fail)
  have hb0 := (Below.refl w.heap.size w).alloc (Nat.le_refl _) (.cells o.cells 39 (0, 0))
  refine wp_world (fun W => Below w.heap.size w W ∧ W.heap[w.heap.size]? = some (.cells o.cells 39 (0, 0))) ⟨hb0, ha_new rfl⟩ ?_
  clear hb0
  rintro W ⟨hb, h1⟩
  replace HS := Lib.hid (HS.out.below hb)
  apply wp_region_lit
  refine wl_k rfl (fun K hK => ?_); go_simp; refine hK _ ?_; clear hK K
  ((with_reducible apply wl_rowG); exact rfl; exact rfl; exact rowO h1)
  simp only [Zq]
  refine wl_ck rfl (fun K hK => ?_); go_simp; refine ⟨_, _, ⟨rfl, rfl⟩, hK _ _ ⟨_, refused_any s A rs HA.out o _ HS.out, ?_⟩⟩; clear hK K; rintro e w1 ⟨rfl, hb1⟩; refine ⟨_, rfl, ?_⟩; simp only [Zq]
  rw [hr]
  replace h1 := below_look hb1 h1
  replace HS := Lib.hid (HS.out.below (hb1.mono (Nat.le_refl _)))
  replace hb := hb.trans (hb1.mono hb.size)
  clear hb1 hr
  obtain ⟨kind, fr, to, at_, n, key⟩ := o
  simp only at hk
  subst hk
  simp only at hfr
  obtain ⟨f, rfl⟩ : ∃ f : Nat, fr = (f : Int) := ⟨fr.toNat, by omega⟩
  have hf8 : (f : Int) < 8 := by omega
  have hnm := nsOf_get (rs := rs) (id_names HA.out hfr.1 hfr.2)
  rw [Int.toNat_natCast] at hnm
  clear hfr
  have c1 := (op_cell h1).2.1
  have c6 := sc_name HS.out.main hnm
  go_upto_region 4 with (fail)
  refine wp_region_held_drew (S := Kept [] w1) mixed (Kept.drew [] w1) (fun hS => ?_)
  refine hk3 (i := 0) rfl (by kernel_rfl) Zh hS rfl (fun K hK => ?_); go_simp; refine hK _ ?_; clear hK K; try simp only [Zq]
  refine hk3 (i := 1) rfl (by kernel_rfl) Zh hS rfl (fun K hK => ?_); go_simp; refine hK _ ?_; clear hK K; try simp only [Zq]
  refine hv3 (i := 2) rfl (by kernel_rfl) Zg hS rfl (fun w' hw' => ex_one rfl (one3 (hw'.cell c1 (by simp <;> omega)))) ?_; try simp only [Zq]
  refine hk3 (i := 3) rfl (by kernel_rfl) Zh hS rfl (fun K hK => ?_); go_simp; refine hK _ ?_; clear hK K; try simp only [Zq]
  refine hk3 (i := 4) rfl (by kernel_rfl) Zh hS rfl (fun K hK => ?_); go_simp; refine hK _ ?_; clear hK K; try simp only [Zq]
  refine hk3 (i := 5) rfl (by kernel_rfl) Zh hS rfl (fun K hK => ?_); go_simp; refine hK _ ?_; clear hK K; try simp only [Zq]
  refine hv3 (i := 6) rfl (by kernel_rfl) Zg hS rfl (fun w' hw' => ex_one rfl (one80 (hw'.cell c6 (by simp <;> omega)))) ?_; try simp only [Zq]
  refine hk3 (i := 7) rfl (by kernel_rfl) Zh hS rfl (fun K hK => ?_); go_simp; refine hK _ ?_; clear hK K; try simp only [Zq]
  refine wpAnyH_done (by kernel_rfl) ?_ _
  replace HS := Lib.hid (HS.out.below (Below.refl w1.heap.size w1).drew)
  replace hb := hb.drew
  replace h1 : w1.drew.heap[w.heap.size]? = _ := h1
  clear c1 c6 hS
  generalize w1.drew = W at *
  have hcs := op_cell h1
  obtain ⟨c0, c1, c2, c3, c4, c5⟩ := hcs
  simp only at c0 c1 c2 c3 c4 c5
  have hkd : (A.buf (f : Int)).kd = 1 := by
    have := HR.out
    apply Classical.byContradiction
    intro hne
    unfold refA at this
    rw [HF.out] at this
    simp only [Bool.true_eq_false, if_false] at this
    rw [if_pos ⟨by decide, hne⟩] at this
    cases this
  obtain ⟨k, hk⟩ : ∃ k, A.id (f : Int) = some k := by
    cases hq : A.id (f : Int) with
    | none => rw [buf_none hq] at hkd; simp [noBuf] at hkd
    | some k => exact ⟨k, rfl⟩
  rw [hk]
  obtain ⟨r, hr, hbk, hB, hG, hns⟩ := HS.out.row HA.out hk
  simp only [Option.map_some, gAt_eq hr]
  rw [show bp (some r.g) = .pointer (some ⟨r.g, 0, none⟩) from rfl]
  have HRw := Lib.hid hr
  have HKk := Lib.hid hk
  have HBk := Lib.hid hbk
  have HB := Lib.hid hB
  have HG := Lib.hid hG
  have HKD := Lib.hid hkd
  clear hr hk hbk hB hG hns hkd hnm
  have hlm := HLM.out HF.out HKD.out
  simp only at hlm
  have hlen := HG.out.len.1
  obtain ⟨a, rfl⟩ : ∃ a : Nat, at_ = (a : Int) := ⟨at_.toNat, by omega⟩
  have ham : a < (A.buf (f : Int)).l.length := by omega
  clear hlm HLM
  go_upto_region 18 with (fail)
  apply wp_region_lit
  iterate 2 (refine wl_k rfl (fun K hK => ?_); go_simp; refine hK _ ?_; clear hK K)
  ((with_reducible apply wl_oneG); exact rfl; exact rfl; exact one3 c1)
  refine wl_ck rfl (fun K hK => ?_); go_simp; refine ⟨_, _, ⟨rfl, rfl⟩, hK _ _ ⟨_, own_at s A rs HA.out (f : Int) (by omega) hf8 k HKk.out hm hs0 hs1 _ HS.out, ?_⟩⟩; clear hK K; rintro e w2 ⟨rs2, k2, r2, rfl, hs2, hid2, hr2, hb2, hran2⟩; refine ⟨_, rfl, ?_⟩; simp only [Zq]
  have hne : ∀ q, Foot s rs2 q → q ≠ w.heap.size := fun q hq e => by
    have hz := heap_lt h1
    rcases hran2.foot q hq with h9 | h9
    · have := HFT.out q h9; omega
    · omega
  replace h1 := (hran2.block w.heap.size (heap_lt h1) (fun hq => by have := HFT.out _ hq; omega)).trans h1
  have HRAN := Lib.hid ((Ran.ofBelow hb).trans hran2)
  have HS2 := Lib.hid hs2
  have HID := Lib.hid hid2
  have HR2 := Lib.hid hr2
  have HB2 := Lib.hid hb2
  have hbf := hs2.rows k2 r2 _ hr2 hb2
  have hgo : r2.g ≠ w.heap.size := hne _ (foot_row hr2)
  have hlo : r2.lv.ownBlock ≠ some w.heap.size := fun e => hne _ (Or.inr ⟨k2, r2, hr2, Or.inr (Or.inl e)⟩) rfl
  have hpo : r2.pv.ownBlock ≠ some w.heap.size := fun e => hne _ (Or.inr ⟨k2, r2, hr2, Or.inr (Or.inr e)⟩) rfl
  clear hs2 hid2 hr2 hb2 hran2 hne HS HRw HKk HBk HB hb c0 c1 c2 c3 c4 c5 hm hs0 hs1 HFT
  have hcs := op_cell h1
  obtain ⟨c0, c1, c2, c3, c4, c5⟩ := hcs
  simp only at c0 c1 c2 c3 c4 c5
  have HBF := Lib.hid hbf
  clear hbf
  refine wl_k rfl (fun K hK => ?_); go_simp; refine hK _ ?_; clear hK K
  obtain ⟨g, lv, pv⟩ := r2
  simp only at hgo hlo hpo
  obtain ⟨p, cap, rfl, hcap⟩ := own_s HBF.out.2.1 (by omega)
  have hpo2 : p ≠ w.heap.size := by simpa [Value.ownBlock] using hlo
  have hoD : w.heap.size ∉ [g, p] := by simp; exact ⟨fun e => hgo e.symm, fun e => hpo2 e.symm⟩
  have HBD := Lib.hid (HBF.out.same (w' := w2.drew) (fun q _ _ => rfl))
  have g1 := (bc_cell HBD.out.1).2.1
  have HDL := Lib.hid (Delete_any p cap 0 (A.buf (f : Int)).l a ham w2.drew HBD.out.2.1)
  have hwr : IntKind.i64.wrap ((a : Int) + 1) = ((a + 1 : Nat) : Int) := by rw [wrap_small _ (by omega) (by omega)]; omega
  clear hlo hpo hgo hpo2
  go_upto_region 19 with (fail)
  refine wp_region_held_drew (S := Kept [g, p] w2) mixed (Kept.drew [g, p] w2) (fun hS => ?_)
  refine hk3 (i := 0) rfl (by kernel_rfl) Zh hS rfl (fun K hK => ?_); go_simp; refine hK _ ?_; clear hK K; try simp only [Zq]
  refine hk3 (i := 1) rfl (by kernel_rfl) Zh hS rfl (fun K hK => ?_); go_simp; refine hK _ ?_; clear hK K; try simp only [Zq]
  refine hk3 (i := 2) rfl (by kernel_rfl) Zh hS rfl (fun K hK => ?_); go_simp; refine hK _ ?_; clear hK K; try simp only [Zq]
  refine hk3 (i := 3) rfl (by kernel_rfl) Zh hS rfl (fun K hK => ?_); go_simp; refine hK _ ?_; clear hK K; try simp only [Zq]
  refine hk3 (i := 5) rfl (by kernel_rfl) Zh hS rfl (fun K hK => ?_); go_simp; refine hK _ ?_; clear hK K; try simp only [Zq]
  (refine hv3 (i := 6) rfl (by kernel_rfl) Zg hS rfl (fun w' hw' => ex_one rfl (one3 (hw'.cell c3 hoD))) ?_; try simp only [Zq])
  refine hk3 (i := 7) rfl (by kernel_rfl) Zh hS rfl (fun K hK => ?_); go_simp; refine hK _ ?_; clear hK K; try simp only [Zq]
  (refine hv3 (i := 8) rfl (by kernel_rfl) Zg hS rfl (fun w' hw' => ex_one rfl (one3 (hw'.cell c3 hoD))) ?_; try simp only [Zq])
  refine hk3 (i := 9) rfl (by kernel_rfl) Zh hS rfl (fun K hK => ?_); go_simp; refine hK _ ?_; clear hK K; try simp only [Zq]
  try rw [hwr]
  refine ha_do (i := 4) (by kernel_rfl) rfl rfl (ex_one rfl (one29 g1)) hS ?_; try simp only [Zq]
  refine ha_call (i := 10) (by kernel_rfl) rfl rfl (fun K hK => ?_); go_simp; refine ⟨_, _, ⟨rfl, rfl⟩, hK _ _ ⟨_, HDL.out, ?_⟩⟩; clear hK K; rintro e w3 ⟨rfl, hown, hK3⟩
  refine ⟨_, rfl, hS.also hK3 (by simp), ?_⟩
  replace hS := hS.also hK3 (D := [g, p]) (by simp)
  try simp only [Zq]
  have hsame : ∀ q, q < w2.heap.size → (Value.slice (some ⟨p, 0, none⟩) (A.buf (f : Int)).l.length cap).ownBlock ≠ some q → w3.heap[q]? = w2.heap[q]? := fun q hq hne => by
    have := hK3.block q hq (by simp; intro e; exact hne (by rw [e]; rfl))
    exact this
  have hg := HBF.out.gAt1 hsame
  refine hk3 (i := 11) rfl (by kernel_rfl) Zh hS rfl (fun K hK => ?_); go_simp; refine hK _ ?_; clear hK K; try simp only [Zq]
  refine hk3 (i := 12) rfl (by kernel_rfl) Zh hS rfl (fun K hK => ?_); go_simp; refine hK _ ?_; clear hK K; try simp only [Zq]
  refine ha_storeC (i := 13) (by kernel_rfl) rfl rfl 29 _ _ rfl g 1 (.slice (some ⟨p, 0, none⟩) ((A.buf (f : Int)).l.length - 1) cap) rfl rfl info29 rfl (by rw [(bc_cell hg).2.1]; rfl) (frozen_of_row _ _ _ _ _ hg) (hS.setCell (by simp) 1 _) (fun hS => ?_); try simp only [Zq]
  refine wpAnyH_done (by kernel_rfl) ?_ _
  have hfin := HS2.out.changed HID.out HR2.out HB2.out hS (fun q hq => by simp only [List.mem_cons, List.not_mem_nil, or_false] at hq; rcases hq with e | e; exact Or.inl e; exact Or.inr (Or.inl (by rw [e]; rfl))) (r' := ⟨g, .slice (some ⟨p, 0, none⟩) ((A.buf (f : Int)).l.length - 1) cap, pv⟩) rfl (Or.inl rfl) (Or.inl rfl) (HBF.out.setList hsame (l' := (A.buf (f : Int)).l.eraseIdx a) (by have h9 : ((A.buf (f : Int)).l.eraseIdx a).length = (A.buf (f : Int)).l.length - 1 := by { rw [List.length_eraseIdx, if_pos ham] }; rw [h9] at hown ⊢; exact hown))
  clear hsame hg hown hK3 hS g1 c0 c1 c2 c3 c4 c5 h1 hoD HDL HBD
  have HFIN := Lib.hid hfin
  clear hfin
  go_wp2_with fail
  go_ret
  exact ⟨congrArg (fun z => Ending.returned (Value.int .i64 z)) HR.out.symm, _, by rw [doA_ok HR.out]; skip; exact HFIN.out.1, HRAN.out.trans HFIN.out.2⟩
set_option maxHeartbeats 4000000 in
set_option maxRecDepth 100000 in
theorem Do_4 (s : Nat) (A : Sto) (rs : List Row) (hA : Good A) (hm : A.bufs.length ≤ 100000) (hs0 : 0 ≤ A.shared) (hs1 : A.shared ≤ 100000) (o : OpV) (hk : o.kind = 4) (hr : refA A o = 0) (w : World) (h : StoreAt w s A rs) :
    Calls Try.prog 19 #[.pointer (some ⟨s, 0, none⟩), .agg o.cells] w fun e w' => DoPost s A rs o w e w' := by
  have hlim : formS o = true → (A.buf o.fr).kd = 1 → 0 ≤ o.at_ ∧ o.at_ < ((A.buf o.fr).l.length : Int) := fun hf hkd => by
    have h2 := hr
    unfold refA at h2
    simp only [hf, hk, show useG 4 = ⟨true, false, true, false, true, 1⟩ from rfl, hkd] at h2
    simp at h2
    omega
  have HLM := Lib.hid hlim
  clear hlim
  have HS := Lib.hid h
  have HA := Lib.hid hA
  have HR := Lib.hid hr
  have hf : formS o = true := by
    cases hq : formS o with
    | true => rfl
    | false => unfold refA at hr; rw [hq] at hr; simp at hr
  have hfr := form_fr hf
  have HF := Lib.hid hf
  have HFT : Hid (∀ q, Foot s rs q → q < w.heap.size) := Lib.hid (fun q hq => h.lt hq)
  have hsw : s < w.heap.size := HFT.out s (Or.inl rfl)
  clear h hA hf
  go_enter Try.func19, Try.ntmps19
  go_upto_region 1 with (fail)
  have hb0 := (Below.refl w.heap.size w).alloc (Nat.le_refl _) (.cells o.cells 39 (0, 0))
  refine wp_world (fun W => Below w.heap.size w W ∧ W.heap[w.heap.size]? = some (.cells o.cells 39 (0, 0))) ⟨hb0, ha_new rfl⟩ ?_
  clear hb0
  rintro W ⟨hb, h1⟩
  replace HS := Lib.hid (HS.out.below hb)
  apply wp_region_lit
  refine wl_k rfl (fun K hK => ?_); go_simp; refine hK _ ?_; clear hK K
  ((with_reducible apply wl_rowG); exact rfl; exact rfl; exact rowO h1)
  simp only [Zq]
  refine wl_ck rfl (fun K hK => ?_); go_simp; refine ⟨_, _, ⟨rfl, rfl⟩, hK _ _ ⟨_, refused_any s A rs HA.out o _ HS.out, ?_⟩⟩; clear hK K; rintro e w1 ⟨rfl, hb1⟩; refine ⟨_, rfl, ?_⟩; simp only [Zq]
  rw [hr]
  replace h1 := below_look hb1 h1
  replace HS := Lib.hid (HS.out.below (hb1.mono (Nat.le_refl _)))
  replace hb := hb.trans (hb1.mono hb.size)
  clear hb1 hr
  obtain ⟨kind, fr, to, at_, n, key⟩ := o
  simp only at hk
  subst hk
  simp only at hfr
  obtain ⟨f, rfl⟩ : ∃ f : Nat, fr = (f : Int) := ⟨fr.toNat, by omega⟩
  have hf8 : (f : Int) < 8 := by omega
  have hnm := nsOf_get (rs := rs) (id_names HA.out hfr.1 hfr.2)
  rw [Int.toNat_natCast] at hnm
  clear hfr
  have c1 := (op_cell h1).2.1
  have c6 := sc_name HS.out.main hnm
  go_upto_region 4 with (fail)
  refine wp_region_held_drew (S := Kept [] w1) mixed (Kept.drew [] w1) (fun hS => ?_)
  refine hk3 (i := 0) rfl (by kernel_rfl) Zh hS rfl (fun K hK => ?_); go_simp; refine hK _ ?_; clear hK K; try simp only [Zq]
  refine hk3 (i := 1) rfl (by kernel_rfl) Zh hS rfl (fun K hK => ?_); go_simp; refine hK _ ?_; clear hK K; try simp only [Zq]
  refine hv3 (i := 2) rfl (by kernel_rfl) Zg hS rfl (fun w' hw' => ex_one rfl (one3 (hw'.cell c1 (by simp <;> omega)))) ?_; try simp only [Zq]
  refine hk3 (i := 3) rfl (by kernel_rfl) Zh hS rfl (fun K hK => ?_); go_simp; refine hK _ ?_; clear hK K; try simp only [Zq]
  refine hk3 (i := 4) rfl (by kernel_rfl) Zh hS rfl (fun K hK => ?_); go_simp; refine hK _ ?_; clear hK K; try simp only [Zq]
  refine hk3 (i := 5) rfl (by kernel_rfl) Zh hS rfl (fun K hK => ?_); go_simp; refine hK _ ?_; clear hK K; try simp only [Zq]
  refine hv3 (i := 6) rfl (by kernel_rfl) Zg hS rfl (fun w' hw' => ex_one rfl (one80 (hw'.cell c6 (by simp <;> omega)))) ?_; try simp only [Zq]
  refine hk3 (i := 7) rfl (by kernel_rfl) Zh hS rfl (fun K hK => ?_); go_simp; refine hK _ ?_; clear hK K; try simp only [Zq]
  refine wpAnyH_done (by kernel_rfl) ?_ _
  replace HS := Lib.hid (HS.out.below (Below.refl w1.heap.size w1).drew)
  replace hb := hb.drew
  replace h1 : w1.drew.heap[w.heap.size]? = _ := h1
  clear c1 c6 hS
  generalize w1.drew = W at *
  have hcs := op_cell h1
  obtain ⟨c0, c1, c2, c3, c4, c5⟩ := hcs
  simp only at c0 c1 c2 c3 c4 c5
  have hkd : (A.buf (f : Int)).kd = 1 := by
    have := HR.out
    apply Classical.byContradiction
    intro hne
    unfold refA at this
    rw [HF.out] at this
    simp only [Bool.true_eq_false, if_false] at this
    rw [if_pos ⟨by decide, hne⟩] at this
    cases this
  obtain ⟨k, hk⟩ : ∃ k, A.id (f : Int) = some k := by
    cases hq : A.id (f : Int) with
    | none => rw [buf_none hq] at hkd; simp [noBuf] at hkd
    | some k => exact ⟨k, rfl⟩
  rw [hk]
  obtain ⟨r, hr, hbk, hB, hG, hns⟩ := HS.out.row HA.out hk
  simp only [Option.map_some, gAt_eq hr]
  rw [show bp (some r.g) = .pointer (some ⟨r.g, 0, none⟩) from rfl]
  have HRw := Lib.hid hr
  have HKk := Lib.hid hk
  have HBk := Lib.hid hbk
  have HB := Lib.hid hB
  have HG := Lib.hid hG
  have HKD := Lib.hid hkd
  clear hr hk hbk hB hG hns hkd hnm
  have hlm := HLM.out HF.out HKD.out
  simp only at hlm
  have hlen := HG.out.len.1
  obtain ⟨a, rfl⟩ : ∃ a : Nat, at_ = (a : Int) := ⟨at_.toNat, by omega⟩
  have ham : a < (A.buf (f : Int)).l.length := by omega
  clear hlm HLM
  obtain ⟨g, lv, pv⟩ := r
  simp only
  obtain ⟨p, cap, rfl, hcap⟩ := own_s HB.out.2.1 (by omega)
  obtain ⟨x, hx⟩ : ∃ x, x = (A.buf (f : Int)).l.getD a ByteArray.empty := ⟨_, rfl⟩
  have hxa : (A.buf (f : Int)).l[a]? = some x := by rw [hx, List.getD_eq_getElem?_getD, List.getElem?_eq_getElem ham]; rfl
  have HX := Lib.hid hx
  have hcell : W.cell? ⟨p, a, none⟩ = some (.string x) := by
    have := HB.out.2.1.cellAt a (by omega)
    rw [this]; exact strs_get hxa
  have g1 := (bc_cell HB.out.1).2.1
  clear hx hxa
  go_upto_region 14 with (fail)
  refine wp_region_held_drew (S := Kept [] W) mixed (Kept.drew [] W) (fun hS => ?_)
  refine hk3 (i := 0) rfl (by kernel_rfl) Zh hS rfl (fun K hK => ?_); go_simp; refine hK _ ?_; clear hK K; try simp only [Zq]
  refine hk3 (i := 1) rfl (by kernel_rfl) Zh hS rfl (fun K hK => ?_); go_simp; refine hK _ ?_; clear hK K; try simp only [Zq]
  refine hk3 (i := 2) rfl (by kernel_rfl) Zh hS rfl (fun K hK => ?_); go_simp; refine hK _ ?_; clear hK K; try simp only [Zq]
  refine hv3 (i := 3) rfl (by kernel_rfl) Zg hS rfl (fun w' hw' => ex_one rfl (one29 (hw'.cell g1 (by simp <;> omega)))) ?_; try simp only [Zq]
  refine hk3 (i := 4) rfl (by kernel_rfl) Zh hS rfl (fun K hK => ?_); go_simp; refine hK _ ?_; clear hK K; try simp only [Zq]
  refine hv3 (i := 5) rfl (by kernel_rfl) Zg hS rfl (fun w' hw' => ex_one rfl (one3 (hw'.cell c3 (by simp <;> omega)))) ?_; try simp only [Zq]
  refine ha_val (i := 6) (v := .pointer (some ⟨p, a, none⟩)) rfl (by kernel_rfl) (by kernel_rfl) (by kernel_rfl) (fun _ _ _ h => h) hS rfl (fun w' _ => (ex_ixS (j := a) _ _ rfl rfl rfl ham).trans (by rw [Addr.add_mid, Nat.zero_add])) ?_; try simp only [Zq]
  refine hv3 (i := 7) rfl (by kernel_rfl) Zg hS rfl (fun w' hw' => ex_one rfl (one9 (hw'.cell hcell (by simp <;> omega)))) ?_; try simp only [Zq]
  refine hk3 (i := 8) rfl (by kernel_rfl) Zh hS rfl (fun K hK => ?_); go_simp; refine hK _ ?_; clear hK K; try simp only [Zq]
  refine hv3 (i := 9) rfl (by kernel_rfl) Zg hS rfl (fun w' hw' => ex_one rfl (one9 (hw'.cell c5 (by simp <;> omega)))) ?_; try simp only [Zq]
  refine hk3 (i := 10) rfl (by kernel_rfl) Zh hS rfl (fun K hK => ?_); go_simp; refine hK _ ?_; clear hK K; try simp only [Zq]
  refine wpAnyH_done (by kernel_rfl) ?_ _
  rw [ba_beq]
  replace HS := Lib.hid (HS.out.below (Below.refl W.heap.size W).drew)
  replace hb := hb.drew
  replace h1 : W.drew.heap[w.heap.size]? = _ := h1
  replace HB : Hid (BufAt W.drew _ _) := Lib.hid (HB.out.same (fun q _ _ => rfl))
  clear c0 c1 c2 c3 c4 c5 hcell g1 hS
  generalize W.drew = W at *
  obtain ⟨c0, c1, c2, c3, c4, c5⟩ := op_cell h1
  simp only at c0 c1 c2 c3 c4 c5
  by_cases hxk : x = key
  · rw [show decide (x = key) = true by simpa using hxk]
    have hfin : StoreAt W s A rs := HS.out
    have HFIN := Lib.hid hfin
    clear hfin
    go_wp2_with fail
    go_ret
    refine ⟨congrArg (fun z => Ending.returned (Value.int .i64 z)) HR.out.symm, rs, ?_, Ran.ofBelow hb⟩
    rw [doA_ok HR.out]
    have h9 : (A.buf (f : Int)).l.getD (Int.toNat (a : Int)) ByteArray.empty = key := by rw [Int.toNat_natCast, ← HX.out]; exact hxk
    simp only [Sto.does]
    rw [if_neg (by decide), if_neg (by decide), if_neg (by decide), if_pos trivial, if_pos h9]
    exact HFIN.out
  · rw [show decide (x = key) = false by simpa using hxk]
    have HN := Lib.hid hxk
    clear hxk
    go_upto_region 15 with (fail)
    apply wp_region_lit
    iterate 2 (refine wl_k rfl (fun K hK => ?_); go_simp; refine hK _ ?_; clear hK K)
    ((with_reducible apply wl_oneG); exact rfl; exact rfl; exact one3 c1)
    refine wl_ck rfl (fun K hK => ?_); go_simp; refine ⟨_, _, ⟨rfl, rfl⟩, hK _ _ ⟨_, own_at s A rs HA.out (f : Int) (by omega) hf8 k HKk.out hm hs0 hs1 _ HS.out, ?_⟩⟩; clear hK K; rintro e w2 ⟨rs2, k2, r2, rfl, hs2, hid2, hr2, hb2, hran2⟩; refine ⟨_, rfl, ?_⟩; simp only [Zq]
    have hne : ∀ q, Foot s rs2 q → q ≠ w.heap.size := fun q hq e => by
      have hz := heap_lt h1
      rcases hran2.foot q hq with h9 | h9
      · have := HFT.out q h9; omega
      · omega
    replace h1 := (hran2.block w.heap.size (heap_lt h1) (fun hq => by have := HFT.out _ hq; omega)).trans h1
    have HRAN := Lib.hid ((Ran.ofBelow hb).trans hran2)
    have HS2 := Lib.hid hs2
    have HID := Lib.hid hid2
    have HR2 := Lib.hid hr2
    have HB2 := Lib.hid hb2
    have hbf := hs2.rows k2 r2 _ hr2 hb2
    have hgo : r2.g ≠ w.heap.size := hne _ (foot_row hr2)
    have hlo : r2.lv.ownBlock ≠ some w.heap.size := fun e => hne _ (Or.inr ⟨k2, r2, hr2, Or.inr (Or.inl e)⟩) rfl
    have hpo : r2.pv.ownBlock ≠ some w.heap.size := fun e => hne _ (Or.inr ⟨k2, r2, hr2, Or.inr (Or.inr e)⟩) rfl
    clear hs2 hid2 hr2 hb2 hran2 hne HS HRw HKk HBk HB hb c0 c1 c2 c3 c4 c5 hm hs0 hs1 HFT
    have hcs := op_cell h1
    obtain ⟨c0, c1, c2, c3, c4, c5⟩ := hcs
    simp only at c0 c1 c2 c3 c4 c5
    have HBF := Lib.hid hbf
    clear hbf
    refine wl_k rfl (fun K hK => ?_); go_simp; refine hK _ ?_; clear hK K
    obtain ⟨g2, lv2, pv2⟩ := r2
    simp only at hgo hlo hpo
    obtain ⟨p2, cap2, rfl, hcap2⟩ := own_s HBF.out.2.1 (by omega)
    have hpo2 : p2 ≠ w.heap.size := by simpa [Value.ownBlock] using hlo
    have hgp : g2 ≠ p2 := fun e => by
      obtain ⟨_, c, hc⟩ := own_block HBF.out.2.1 (q := p2) rfl
      have := HBF.out.1
      rw [show (Row.g ⟨g2, .slice (some ⟨p2, 0, none⟩) (A.buf (f : Int)).l.length cap2, pv2⟩) = p2 from e, hc] at this
      simp only [Option.some.injEq, Obj.cells.injEq] at this; exact absurd this.2.1 (by decide)
    have hoD : w.heap.size ∉ [p2] := by simp; exact fun e => hpo2 e.symm
    have hgD : g2 ∉ [p2] := by simpa using hgp
    have g1 := (bc_cell HBF.out.1).2.1
    have hcl := HBF.out.2.1.cellAt a (by omega)
    obtain ⟨_, cur, hcur⟩ := own_block HBF.out.2.1 (q := p2) rfl
    have hfro : w2.frozen? ⟨p2, a, none⟩ = false := frozen_of_row _ _ _ _ _ hcur
    have hthere : (w2.cell? ⟨p2, a, none⟩).isSome = true := by
      rw [hcl]; unfold strs; rw [List.getElem?_map, List.getElem?_eq_getElem ham]; rfl
    clear hlo hpo hgo hpo2 hcl hcur
    go_upto_region 16 with (fail)
    refine wp_region_held_drew (S := Kept [p2] w2) mixed (Kept.drew [p2] w2) (fun hS => ?_)
    refine hk3 (i := 0) rfl (by kernel_rfl) Zh hS rfl (fun K hK => ?_); go_simp; refine hK _ ?_; clear hK K; try simp only [Zq]
    refine hk3 (i := 1) rfl (by kernel_rfl) Zh hS rfl (fun K hK => ?_); go_simp; refine hK _ ?_; clear hK K; try simp only [Zq]
    refine hk3 (i := 2) rfl (by kernel_rfl) Zh hS rfl (fun K hK => ?_); go_simp; refine hK _ ?_; clear hK K; try simp only [Zq]
    (refine hv3 (i := 3) rfl (by kernel_rfl) Zg hS rfl (fun w' hw' => ex_one rfl (one29 (hw'.cell g1 hgD))) ?_; try simp only [Zq])
    refine hk3 (i := 4) rfl (by kernel_rfl) Zh hS rfl (fun K hK => ?_); go_simp; refine hK _ ?_; clear hK K; try simp only [Zq]
    (refine hv3 (i := 5) rfl (by kernel_rfl) Zg hS rfl (fun w' hw' => ex_one rfl (one3 (hw'.cell c3 hoD))) ?_; try simp only [Zq])
    refine hk3 (i := 6) rfl (by kernel_rfl) Zh hS rfl (fun K hK => ?_); go_simp; refine hK _ ?_; clear hK K; try simp only [Zq]
    (refine hv3 (i := 7) rfl (by kernel_rfl) Zg hS rfl (fun w' hw' => ex_one rfl (one9 (hw'.cell c5 hoD))) ?_; try simp only [Zq])
    refine ha_val (i := 8) (v := .pointer (some ⟨p2, a, none⟩)) rfl (by kernel_rfl) (by kernel_rfl) (by kernel_rfl) (fun _ _ _ h => h) hS rfl (fun w' _ => (ex_ixS (j := a) _ _ rfl rfl rfl ham).trans (by rw [Addr.add_mid, Nat.zero_add])) ?_; try simp only [Zq]
    refine ha_storeC (i := 9) (by kernel_rfl) rfl rfl 9 _ _ rfl p2 a (.string key) rfl rfl (by kernel_rfl) rfl hthere hfro (hS.setCell (by simp) a _) (fun hS => ?_); try simp only [Zq]
    refine wpAnyH_done (by kernel_rfl) ?_ _
    have hsame : ∀ q, q < w2.heap.size → (Value.slice (some ⟨p2, 0, none⟩) (A.buf (f : Int)).l.length cap2).ownBlock ≠ some q → (w2.drew.setCell ⟨p2, a, none⟩ (.string key)).heap[q]? = w2.heap[q]? := fun q hq hne => by
      rw [heap_setCell_other _ _ _ _ (fun e => hne (by have e' : q = p2 := e; rw [e']; rfl))]; rfl
    have hown : (w2.drew.setCell ⟨p2, a, none⟩ (.string key)).ownsRow 0 9 1 (.slice (some ⟨p2, 0, none⟩) (A.buf (f : Int)).l.length cap2) ((A.buf (f : Int)).l.set a key).length (strs ((A.buf (f : Int)).l.set a key)) :=
      own_setS (own_below HBF.out.2.1 (Below.refl _ w2).drew) a key
    have hfin := HS2.out.changed HID.out HR2.out HB2.out hS (fun q hq => by simp only [List.mem_cons, List.not_mem_nil, or_false] at hq; exact Or.inr (Or.inl (by rw [hq]; rfl))) (r' := ⟨g2, .slice (some ⟨p2, 0, none⟩) (A.buf (f : Int)).l.length cap2, pv2⟩) rfl (Or.inl rfl) (Or.inl rfl) (HBF.out.listIn hsame hown)
    clear hsame hown hS g1 c0 c1 c2 c3 c4 c5 h1 hoD hgD hthere hfro hgp
    have h9 : Hid (¬ (A.buf (f : Int)).l.getD (Int.toNat (a : Int)) ByteArray.empty = key) := Lib.hid (by rw [Int.toNat_natCast, ← HX.out]; exact HN.out)
    have HFIN := Lib.hid hfin
    clear hfin
    go_wp2_with fail
    go_ret
    exact ⟨congrArg (fun z => Ending.returned (Value.int .i64 z)) HR.out.symm, _, by rw [doA_ok HR.out]; simp only [Sto.does]; rw [if_neg (by decide), if_neg (by decide), if_neg (by decide), if_pos trivial, if_neg h9.out]; exact HFIN.out.1, HRAN.out.trans HFIN.out.2⟩
end Go.Proofs.Ytbhdgeoljlhmcaa
