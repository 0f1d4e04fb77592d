/- The law's own check of a copied array, by the program. -/
import Derived.Test.YtbhdgeoljlhmcaaS35
import Derived.Outline
namespace Go.Proofs.Ytbhdgeoljlhmcaa
open Go.RowKit Go.Proofs.Ytbhdgeoljlhmcaa.Nm Go.Proofs.Ytbhdgeoljlhmcaa.St
set_option linter.unusedSimpArgs false
theorem itRow_get {b : Buf} {p : Value × Value} : ∀ {bs : List Buf} {ps : List (Value × Value)} {i : Nat}, bs[i]? = some b → ps[i]? = some p →
    (itRow bs ps)[i * 4]? = some (.int .i64 b.kd) ∧ (itRow bs ps)[i * 4 + 1]? = some p.1 ∧ (itRow bs ps)[i * 4 + 2]? = some (.int .i64 b.seed) ∧ (itRow bs ps)[i * 4 + 3]? = some p.2
  | [], _, i, h, _ => by simp at h
  | x :: bs, [], i, _, h => by simp at h
  | x :: bs, y :: ps, 0, h, h2 => by
    simp at h h2; subst h h2
    exact ⟨rfl, rfl, rfl, rfl⟩
  | x :: bs, y :: ps, i + 1, h, h2 => by
    have ih := itRow_get (bs := bs) (ps := ps) (i := i) (by simpa using h) (by simpa using h2)
    have e : ∀ n, (itRow (x :: bs) (y :: ps))[n + 4]? = (itRow bs ps)[n]? := fun n => rfl
    rw [show (i + 1) * 4 = i * 4 + 4 by omega, show i * 4 + 4 + 1 = i * 4 + 1 + 4 by omega, show i * 4 + 4 + 2 = i * 4 + 2 + 4 by omega, show i * 4 + 4 + 3 = i * 4 + 3 + 4 by omega, e, e, e, e]
    exact ih
theorem itRow_length : ∀ (bs : List Buf) (ps : List (Value × Value)), bs.length = ps.length → (itRow bs ps).length = bs.length * 4
  | [], ps, _ => by simp [itRow]
  | x :: bs, [], h => by simp at h
  | x :: bs, y :: ps, h => by simp only [itRow, List.length_append, itRow_length bs ps (by simpa using h), List.length_cons]; show 4 + _ = _; omega
/-- one item of a list of items -/
theorem ItemsAt.get {w : World} {B : Nat} {v : Value} {bs : List Buf} (h : ItemsAt w B v bs) (hn : 1 ≤ bs.length) : ∃ q cap, v = .slice (some ⟨q, 0, none⟩) bs.length cap ∧ B ≤ q ∧ bs.length ≤ cap ∧ ∀ (i : Nat) (b : Buf), bs[i]? = some b → ∃ lv pv,
    RowAt w 32 ⟨q, i * 4, none⟩ (icells b.kd lv b.seed pv) ∧ w.cell? ⟨q, i * 4, none⟩ = some (.int .i64 b.kd) ∧ w.cell? ⟨q, i * 4 + 1, none⟩ = some lv ∧ w.cell? ⟨q, i * 4 + 2, none⟩ = some (.int .i64 b.seed) ∧ w.cell? ⟨q, i * 4 + 3, none⟩ = some pv ∧
    w.ownsRow B 9 1 lv b.l.length (strs b.l) ∧ w.ownsRow B 91 2 pv (pairsT b.t).length (prow (pairsT b.t)) := by
  obtain ⟨ps, hps, hr, hall⟩ := h
  rcases hr.2 with ⟨_, h0⟩ | ⟨q, cap, cur, hv, hB, hg, h1, h2, h3, h4⟩
  · omega
  · refine ⟨q, cap, hv, hB, h1, fun i b hi => ?_⟩
    have hil := (List.getElem?_eq_some_iff.1 hi).1
    obtain ⟨p, hp⟩ : ∃ p, ps[i]? = some p := ⟨_, List.getElem?_eq_getElem (by omega)⟩
    obtain ⟨g0, g1, g2, g3⟩ := itRow_get hi hp
    have key : ∀ x u, x < bs.length * 4 → (itRow bs ps)[x]? = some u → cur[x]? = some u := fun x u hx hu => by
      rw [← h4, List.getElem?_take_of_lt hx] at hu; simpa using hu
    have k0 := key _ _ (by omega) g0
    have k1 := key _ _ (by omega) g1
    have k2 := key _ _ (by omega) g2
    have k3 := key _ _ (by omega) g3
    refine ⟨p.1, p.2, row_mid hg (D := icells b.kd p.1 b.seed p.2) (n := 4) ?_ u32 rfl rfl info32, ?_, ?_, ?_, ?_, hall i b p hi hp⟩
    · have hz : i * 4 + 4 ≤ cur.size := by omega
      apply Array.ext
      · simp [icells]; omega
      · intro j hj1 hj2
        have hj : j = 0 ∨ j = 1 ∨ j = 2 ∨ j = 3 := by simp [icells] at hj2; omega
        rw [Array.getElem_extract]
        rcases hj with rfl | rfl | rfl | rfl
        · have := (Array.getElem?_eq_some_iff.1 k0).2; simpa [icells] using this
        · have := (Array.getElem?_eq_some_iff.1 k1).2; simpa [icells] using this
        · have := (Array.getElem?_eq_some_iff.1 k2).2; simpa [icells] using this
        · have := (Array.getElem?_eq_some_iff.1 k3).2; simpa [icells] using this
    · rw [cell_of_row _ _ _ _ _ _ hg]; exact k0
    · rw [cell_of_row _ _ _ _ _ _ hg]; exact k1
    · rw [cell_of_row _ _ _ _ _ _ hg]; exact k2
    · rw [cell_of_row _ _ _ _ _ _ hg]; exact k3
def aw1 : OpV := ⟨1, 0, 0, 0, 0, ⟨#[]⟩⟩
def aw2 : OpV := ⟨3, 0, 0, 0, 0, ⟨#[97]⟩⟩
def aw3 : OpV := ⟨2, 0, 1, 0, 0, ⟨#[]⟩⟩
def aw4 : OpV := ⟨3, 1, 0, 0, 0, ⟨#[98]⟩⟩
def awL : List OpV := [aw1, aw2, aw3, aw4]
theorem aw_b1 : Try.prog.built 39 [(0, .int .i64 1)] = some aw1.cells := by kernel_rfl
theorem aw_b2 : Try.prog.built 39 [(0, .int .i64 3), (5, .string ⟨#[97]⟩)] = some aw2.cells := by kernel_rfl
theorem aw_b3 : Try.prog.built 39 [(0, .int .i64 2), (2, .int .i64 1)] = some aw3.cells := by kernel_rfl
theorem aw_b4 : Try.prog.built 39 [(0, .int .i64 3), (1, .int .i64 1), (5, .string ⟨#[98]⟩)] = some aw4.cells := by kernel_rfl
def awC : Array Value := aw1.cells ++ aw2.cells ++ aw3.cells ++ aw4.cells
theorem run_aw (w : World) : (Instr.buildSlice 22 4 #[(0, .agg aw1.cells), (1, .agg aw2.cells), (2, .agg aw3.cells), (3, .agg aw4.cells)]).run Try.prog w = .ok (.slice (some ⟨w.heap.size, 0, none⟩) 4 4) (w.alloc (.cells awC 39)) := by kernel_rfl
theorem ex_aw {ev : Operand → Value} {o : Oper} {w : World} (x y z t : Operand) (ho : o.op = .buildSlice 22 4 #[(0, x), (1, y), (2, z), (3, t)]) (hx : ev x = .agg aw1.cells) (hy : ev y = .agg aw2.cells) (hz : ev z = .agg aw3.cells) (ht : ev t = .agg aw4.cells) :
    (execOp ev o).run Try.prog w = .ok (.value (.slice (some ⟨w.heap.size, 0, none⟩) 4 4)) (w.alloc (.cells awC 39)) := by
  unfold execOp
  simp only [ho, List.map_toArray, List.map_cons, List.map_nil, hx, hy, hz, ht, run_aw w, Sem.run_bind, Result.andThen_ok]
  rfl
theorem aw_ops {w : World} {q : Nat} (h : w.heap[q]? = some (.cells awC 39 (0, 0))) : OpsAt w (some ⟨q, 0, none⟩) 4 awL := ⟨rfl, fun i o ho => by
  rcases i with _ | _ | _ | _ | i
  · simp [awL] at ho; subst ho; exact ⟨q, 0, _, _, _, rfl, h, rfl⟩
  · simp [awL] at ho; subst ho; exact ⟨q, 0, _, _, _, rfl, h, rfl⟩
  · simp [awL] at ho; subst ho; exact ⟨q, 0, _, _, _, rfl, h, rfl⟩
  · simp [awL] at ho; subst ho; exact ⟨q, 0, _, _, _, rfl, h, rfl⟩
  · simp [awL] at ho⟩
theorem aw_0 : (stA awL 4).buf 0 = ⟨1, [⟨#[97]⟩], 0, []⟩ := by kernel_rfl
theorem aw_1 : (stA awL 4).buf 1 = ⟨1, [⟨#[97]⟩, ⟨#[98]⟩], 0, []⟩ := by kernel_rfl
theorem aw_e : errA awL 3 = 0 := by kernel_rfl
set_option maxHeartbeats 2000000 in
set_option maxRecDepth 100000 in
theorem awake_any (w : World) : Calls Try.prog 17 #[] w fun e w' => e = .returned (.bool true) ∧ Below w.heap.size w w' := by
  go_enter Try.func17, Try.ntmps17
  go_upto_region 1 with (fail)
  apply wp_region_lit
  refine wl_val rfl (ex_build 39 _ rfl (L := [(0, .int .i64 1)]) rfl aw_b1) ?_
  simp only [put_lit, List.set_cons_zero, List.set_cons_succ]
  refine wl_val rfl (ex_build 39 _ rfl (L := [(0, .int .i64 3), (5, .string ⟨#[97]⟩)]) rfl aw_b2) ?_
  simp only [put_lit, List.set_cons_zero, List.set_cons_succ]
  refine wl_val rfl (ex_build 39 _ rfl (L := [(0, .int .i64 2), (2, .int .i64 1)]) rfl aw_b3) ?_
  simp only [put_lit, List.set_cons_zero, List.set_cons_succ]
  refine wl_val rfl (ex_build 39 _ rfl (L := [(0, .int .i64 3), (1, .int .i64 1), (5, .string ⟨#[98]⟩)]) rfl aw_b4) ?_
  simp only [put_lit, List.set_cons_zero, List.set_cons_succ]
  refine wl_w rfl (ex_aw _ _ _ _ rfl rfl rfl rfl rfl) ?_
  simp only [put_lit, List.set_cons_zero, List.set_cons_succ]
  have hb := (Below.refl w.heap.size w).alloc (Nat.le_refl _) (.cells awC 39)
  have hops := aw_ops (w := w.alloc (.cells awC 39)) (q := w.heap.size) (ha_new rfl)
  have HP := Lib.hid (Play_any _ 4 4 awL (by omega) _ hops)
  have hzz := hb.size
  clear hops
  refine wl_ck rfl (fun K hK => ?_); go_simp; refine ⟨_, _, ⟨rfl, rfl⟩, hK _ _ ⟨_, HP.out, ?_⟩⟩; clear hK K; rintro e w1 ⟨iv, ev, rfl, hits, hes, hb1⟩; refine ⟨_, rfl, ?_⟩; simp only [put_lit, List.set_cons_zero, List.set_cons_succ]
  obtain ⟨q, cap, rfl, -, -, hall⟩ := hits.get (by simp)
  obtain ⟨lv0, pv0, -, -, k0, -, -, o0, -⟩ := hall 0 _ rfl
  obtain ⟨lv1, pv1, -, -, k1, -, -, o1, -⟩ := hall 1 _ rfl
  replace o0 : w1.ownsRow _ 9 1 lv0 ((stA awL 4).buf 0).l.length (strs ((stA awL 4).buf 0).l) := o0
  replace o1 : w1.ownsRow _ 9 1 lv1 ((stA awL 4).buf 1).l.length (strs ((stA awL 4).buf 1).l) := o1
  rw [aw_0] at o0
  rw [aw_1] at o1
  obtain ⟨A0, d0, rfl⟩ := own_shape o0
  obtain ⟨p1, d1, rfl, -⟩ := own_s o1 (by simp)
  have kb := o1.cellAt 1 (by simp)
  rw [show (strs ([⟨#[97]⟩, ⟨#[98]⟩] : List ByteArray))[1]? = some (.string ⟨#[98]⟩) from rfl] at kb
  obtain ⟨z, d2, rfl⟩ : ∃ z d, ev = .slice (some ⟨z, 0, none⟩) 4 d := by
    rcases hes.2 with ⟨_, h0⟩ | ⟨z, d, cur, hv, _⟩
    · simp at h0
    · exact ⟨z, d, hv⟩
  have ke := hes.cellAt 3 (by simp)
  rw [show (ints ((List.range 4).map (errA awL)))[3]? = some (.int .i64 (errA awL 3)) from rfl, aw_e] at ke
  have HB := Lib.hid (hb.trans (hb1.mono hzz))
  clear hall hits hes o0 o1 HP hb hb1 hzz
  have k0' : w1.cell? ⟨q, 1, none⟩ = some (.slice A0 1 d0) := k0
  have k1' : w1.cell? ⟨q, 5, none⟩ = some (.slice (some ⟨p1, 0, none⟩) 2 d1) := k1
  clear k0 k1
  have hbb : ((⟨#[98]⟩ : ByteArray).toList == (⟨#[98]⟩ : ByteArray).toList) = true := by rw [ba_beq]; simp
  go_wp2_with fail
  go_ret
  exact ⟨rfl, HB.out⟩
end Go.Proofs.Ytbhdgeoljlhmcaa
