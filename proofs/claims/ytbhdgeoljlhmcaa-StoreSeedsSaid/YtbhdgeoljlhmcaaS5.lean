/- An entry taken out of a table, by the program. -/
import Derived.Test.YtbhdgeoljlhmcaaS4
import Derived.Outline
namespace Go.Proofs.Ytbhdgeoljlhmcaa
open Go.RowKit Go.Proofs.Ytbhdgeoljlhmcaa.Nm Go.Proofs.Ytbhdgeoljlhmcaa.St
set_option linter.unusedSimpArgs false
section
variable {ops : Array Oper} {rest : List Oper} {ty ty' : TypeId} {x y : Operand} {pos : String} {after : Array Edge} {a : Act} {w : World} {Q : Exit → Act → World → Prop}
theorem wl_putG (b : Nat) (cells : Array Value) (hx : a.eval x = .pointer (some ⟨b, 0, none⟩)) (hy : a.eval y = .agg cells) (t : TypeId) (old : Array Value) (hb : w.heap[b]? = some (.cells old t (0, 0))) (hi : (Try.prog.info? ty).map (·.size) = some cells.size) (hold : old.size = cells.size) (h1 : cells.all (·.oneCell') = true)
    (h : wpList Try.prog ops Q rest (a.put none undef) (w.setRow b cells)) : wpList Try.prog ops Q (⟨none, .store ty x y, ty', pos, after, none⟩ :: rest) a w :=
  wpList_plain rfl fun _ hK => wp_store_row ty x y rfl b cells hx hy t old hb hi hold h1 (hK _ _ h)
end
theorem ex_alloc91 {o : Oper} (ho : o.op = .alloc 91) (ev : Operand → Value) (w : World) : (execOp ev o).run Try.prog w = .ok (.value (.pointer (some ⟨w.heap.size, 0, none⟩))) (w.alloc (.cells (pair ⟨#[]⟩ 0) 91)) := by
  unfold execOp
  simp only [ho]
  kernel_rfl
theorem built95n : Try.prog.built 95 [] = some (ecells none) := by kernel_rfl
theorem pair_one (k : ByteArray) (v : Int) : (pair k v).all (·.oneCell') = true := by simp [pair, Value.oneCell']
theorem extract2 {cur : Array Value} {o : Nat} {x y : Value} (h1 : cur[o]? = some x) (h2 : cur[o + 1]? = some y) : cur.extract o (o + 2) = #[x, y] := by
  have l2 : o + 1 < cur.size := (Array.getElem?_eq_some_iff.1 h2).1
  apply Array.ext
  · simp; omega
  · intro i hi1 hi2
    simp at hi2
    rw [Array.getElem_extract]
    rcases (show i = 0 ∨ i = 1 by omega) with rfl | rfl
    · simpa using (Array.getElem?_eq_some_iff.1 h1).2
    · simpa using (Array.getElem?_eq_some_iff.1 h2).2
theorem PlAt.row {w : World} {p cap i : Nat} {t : Tab} (h : PlAt w p cap t) (hi : i < t.length) : RowAt w 91 ⟨p, i * 3 + 1, none⟩ (pair (ek (pl t i)) (ev (pl t i))) := by
  obtain ⟨cur, h1, _, _, h2⟩ := h
  obtain ⟨_, hb, hc⟩ := h2 i hi
  exact row_mid h1 (extract2 hb hc) u91 rfl rfl info91
/-- keys are short -/
def Short (t : Tab) : Prop := ∀ j, (ek (pl t j)).size ≤ 1000000000
theorem Short.set {t : Tab} (h : Short t) {i : Nat} (hi : i < t.length) {o : Option (ByteArray × Int)} (ho : (ek o).size ≤ 1000000000) : Short (t.set i o) := fun j => by
  by_cases e : j % t.length = i
  · have : pl (t.set i o) j = o := by rw [← pl_mod, List.length_set, e]; exact pl_set_self hi _
    rw [this]; exact ho
  · rw [pl_set_ne e]; exact h j
theorem off_back {n i s : Nat} (hi : i < n) (hs : s < n) : ((i + s) % n + n - i) % n = s := by
  rcases Nat.lt_or_ge (i + s) n with h | h
  · rw [Nat.mod_eq_of_lt h, show i + s + n - i = s + n by omega, Nat.add_mod_right, Nat.mod_eq_of_lt hs]
  · have e : (i + s) % n = i + s - n := by rw [Nat.mod_eq_sub_mod h, Nat.mod_eq_of_lt (by omega)]
    rw [e, show i + s - n + n - i = s by omega, Nat.mod_eq_of_lt hs]
set_option maxHeartbeats 4000000 in
set_option maxRecDepth 100000 in
theorem remove_any (g p cap : Nat) (t : Tab) (kd seed : Int) (cnt : Int) (lv : Value) (i : Nat) (hw : Wf (HH seed) t) (hsh : Short t) (hi : i < t.length) (hoc : occ t i = true) (hn2 : t.length ≤ 1000000) (hc1 : 1 ≤ cnt) (hc2 : cnt ≤ 1000000) (w : World)
    (h0 : w.heap[g]? = some (.cells (bcells kd lv seed cnt (.slice (some ⟨p, 0, none⟩) t.length cap)) 87 (0, 0))) (hp : PlAt w p cap t) (hgp : g ≠ p) :
    Calls Try.prog 58 #[.pointer (some ⟨g, 0, none⟩), .int .i64 (i : Int)] w fun e w' => e = .returned (.tuple #[]) ∧ w'.heap[g]? = some (.cells (bcells kd lv seed (cnt - 1) (.slice (some ⟨p, 0, none⟩) t.length cap)) 87 (0, 0)) ∧ PlAt w' p cap (removeT (HH seed) t i) ∧ Kept [g, p] w w' := by
  have HP := Lib.hid hp
  have LP := hp.lt
  have LG := heap_lt h0
  have b4 := (bc_cell h0).2.2.2.2
  obtain ⟨m, hm1, hmid⟩ := Mid.start (HH seed) hw hi hoc
  have HM := Lib.hid hmid
  have hmn : m < t.length := by have := hmid.m1; simpa using this
  have HS := Lib.hid hsh
  clear hp hmid hw hsh hoc
  go_enter Try.func58, Try.ntmps58
  go_upto_region 0 with (fail)
  apply wp_region_lit
  refine wl_k rfl (fun K hK => ?_); go_simp; refine hK _ ?_; clear hK K
  refine wl_k rfl (fun K hK => ?_); go_simp; refine hK _ ?_; clear hK K
  refine wl_k rfl (fun K hK => ?_); go_simp; refine hK _ ?_; clear hK K
  ((with_reducible apply wl_oneG); exact rfl; exact rfl; exact one85 b4)
  refine wl_k rfl (fun K hK => ?_); go_simp; refine hK _ ?_; clear hK K
  refine wl_val rfl (ex_build 95 _ rfl (L := []) rfl built95n) ?_
  simp only [put_lit, List.set_cons_zero, List.set_cons_succ]
  refine wl_k rfl (fun K hK => ?_); go_simp; refine hK _ ?_; clear hK K
  refine wpList_store_mid rfl 95 _ _ rfl p (i * 3) (ecells none) rfl rfl (HP.out.there hi) info95 (ecells_one _) ?_
  have HK := Lib.hid (Nm.Kept.setCells (D := [g, p]) (p := p) (by simp) (ecells none).toList (i * 3) w (Nm.Kept.refl _ _))
  have HP2 := Lib.hid (HP.out.set hi none)
  have h0' : (w.setCells p (i * 3) (ecells none).toList).heap[g]? = some (.cells (bcells kd lv seed cnt (.slice (some ⟨p, 0, none⟩) t.length cap)) 87 (0, 0)) := hs_old (hs_old (hs_old h0 hgp) hgp) hgp
  clear HP h0 b4
  generalize w.setCells p (i * 3) (ecells none).toList = w1 at *
  have b3 := (bc_cell h0').2.2.2.1
  have b4 := (bc_cell h0').2.2.2.2
  have f3 : w1.frozen? ⟨g, 3, none⟩ = false := frozen_of_row _ _ _ _ _ h0'
  go_upto_region 2 with (fail)
  have h2 : (w1.setCell ⟨g, 3, none⟩ (.int .i64 (cnt - 1))).heap[g]? = some (.cells (bcells kd lv seed (cnt - 1) (.slice (some ⟨p, 0, none⟩) t.length cap)) 87 (0, 0)) := (hs_new h0').trans rfl
  have HP3 := Lib.hid (HP2.out.look (heap_setCell_other w1 ⟨g, 3, none⟩ p (.int .i64 (cnt - 1)) (fun e => hgp e.symm)))
  have HK2 := Lib.hid (HK.out.setCell (p := g) (by simp) 3 (.int .i64 (cnt - 1)))
  clear HK HP2 h0' b3 b4 f3
  generalize w1.setCell ⟨g, 3, none⟩ (.int .i64 (cnt - 1)) = w2 at *
  have b4 := (bc_cell h2).2.2.2.2
  have hne : ¬ t = [] := fun e => by rw [e] at hi; simp at hi
  have hmod : ((i : Int) + 1) % (t.length : Int) = (((i + 1) % t.length : Nat) : Int) := by rw [← emod_nat]; simp
  have HMOD := Lib.hid hmod
  have HSH := Lib.hid (HS.out.set hi (o := none) (by decide))
  have HSW : Hid (sweep (HH seed) (t.set i none) (i + 1) t.length = removeT (HH seed) t i) := Lib.hid rfl
  have hln : (t.set i none).length = t.length := by simp
  generalize t.set i none = t1 at *
  clear hmod HS
  go_wp2_with fail
  rw [HMOD.out]
  obtain ⟨z, hz⟩ : ∃ z : Nat, z = (i + 1) % t.length := ⟨_, rfl⟩
  rw [← hz]
  have HZ := Lib.hid hz
  clear b4 HMOD hz
  go_loopw [4] (fun v wr => ∃ (s : Nat) (ts : Tab), ts.length = t.length ∧ s ≤ m ∧ Hid (Mid (HH seed) ts i s m) ∧ Hid (Short ts) ∧ v = .int .i64 (((i + s) % t.length : Nat) : Int) ∧ Hid (sweep (HH seed) ts (i + s) (t.length + 1 - s) = removeT (HH seed) t i) ∧ wr.heap[g]? = some (.cells (bcells kd lv seed (cnt - 1) (.slice (some ⟨p, 0, none⟩) t.length cap)) 87 (0, 0)) ∧ Hid (PlAt wr p cap ts) ∧ Hid (Kept [g, p] w wr)) (fun v _ => m - ((intOf v).toNat + t.length - i) % t.length)
  case atStart => exact ⟨1, t1, hln, hm1, HM, HSH, by rw [HZ.out], HSW, h2, HP3, HK2⟩
  case round =>
    clear hln HM HSH HSW h2 HP3 HK2
    obtain ⟨s, ts, hln, hs, HM, HSH, rfl, HSW, h2, HP, HK⟩ := hrel
    obtain ⟨j, hj⟩ : ∃ j, j = (i + s) % t.length := ⟨_, rfl⟩
    have hjl : j < ts.length := by rw [hj, hln]; exact Nat.mod_lt _ (by omega)
    have hjt : j < t.length := by rw [← hln]; exact hjl
    have hpl : pl ts j = pl ts (i + s) := by rw [hj, ← hln, pl_mod]
    have HJ := Lib.hid hj
    rw [← hj]
    clear hj
    have b4 := (bc_cell h2).2.2.2.2
    have cu := (HP.out.cell hjl).1
    rw [hpl] at cu
    by_cases hsm : s < m
    · obtain ⟨k, v, hkv⟩ := occ_iff.1 (HM.out.full s (Nat.le_refl _) hsm)
      rw [hkv] at cu hpl
      have HPL := Lib.hid hpl
      have HKV := Lib.hid hkv
      have hks : k.size ≤ 1000000000 := by have := HSH.out (i + s); rw [hkv] at this; exact this
      have LP2 := HP.out.lt
      have LG2 := heap_lt h2
      have LK := HK.out.1
      clear hpl hkv
      go_upto_region 5 with (fail)
      apply wp_region_lit
      refine wl_k rfl (fun K hK => ?_); go_simp; refine hK _ ?_; clear hK K
      refine wl_k rfl (fun K hK => ?_); go_simp; refine hK _ ?_; clear hK K
      refine wl_k rfl (fun K hK => ?_); go_simp; refine hK _ ?_; clear hK K
      ((with_reducible apply wl_oneG); exact rfl; exact rfl; exact one85 b4)
      refine wl_k rfl (fun K hK => ?_); go_simp; refine hK _ ?_; clear hK K
      refine wl_k rfl (fun K hK => ?_); go_simp; refine hK _ ?_; clear hK K
      refine wl_k rfl (fun K hK => ?_); go_simp; refine hK _ ?_; clear hK K
      ((with_reducible apply wl_rowG); exact rfl; exact rfl; exact HP.out.row hjl)
      rw [HPL.out, show pair (ek (some (k, v))) (ev (some (k, v))) = pair k v from rfl]
      simp only [put_lit, List.set_cons_zero, List.set_cons_succ]
      refine wl_new (fun ev w => ex_alloc91 rfl ev w) ?_
      intro W5 p5 hb5 hl5 h5
      replace h2 := below_look hb5 h2
      replace HP := Lib.hid (HP.out.below hb5)
      replace HK := Lib.hid (HK.out.below hb5)
      have LW := hb5.size
      clear hb5
      refine wl_putG p5 (pair k v) rfl rfl 91 _ h5 info91 rfl (pair_one _ _) ?_
      replace HK := Lib.hid (HK.out.setNew (p := p5) (by omega) (pair k v))
      replace h2 := hr_old (cs := pair k v) h2 (show g ≠ p5 by omega)
      have HP5 := Lib.hid (HP.out.look (w' := W5.setRow p5 (pair k v)) (setRow_other W5 p5 p (pair k v) (by omega)))
      have h5' := hr_new (cs := pair k v) h5
      clear HP h5 cu b4
      generalize W5.setRow p5 (pair k v) = w5 at *
      have b4 := (bc_cell h2).2.2.2.2
      go_upto_region 6 with (fail)
      apply wp_region_lit
      refine wl_k rfl (fun K hK => ?_); go_simp; refine hK _ ?_; clear hK K
      refine wl_k rfl (fun K hK => ?_); go_simp; refine hK _ ?_; clear hK K
      refine wl_k rfl (fun K hK => ?_); go_simp; refine hK _ ?_; clear hK K
      ((with_reducible apply wl_oneG); exact rfl; exact rfl; exact one85 b4)
      refine wl_k rfl (fun K hK => ?_); go_simp; refine hK _ ?_; clear hK K
      refine wl_val rfl (ex_build 95 _ rfl (L := []) rfl built95n) ?_
      simp only [put_lit, List.set_cons_zero, List.set_cons_succ]
      refine wl_k rfl (fun K hK => ?_); go_simp; refine hK _ ?_; clear hK K
      refine wpList_store_mid rfl 95 _ _ rfl p (j * 3) (ecells none) rfl rfl (HP5.out.there hjl) info95 (ecells_one _) ?_
      have HP6 := Lib.hid (HP5.out.set hjl none)
      replace HK := Lib.hid (Nm.Kept.setCells (D := [g, p]) (p := p) (by simp) (ecells none).toList (j * 3) w5 HK.out)
      replace h2 : (w5.setCells p (j * 3) (ecells none).toList).heap[g]? = some (.cells (bcells kd lv seed (cnt - 1) (.slice (some ⟨p, 0, none⟩) t.length cap)) 87 (0, 0)) := hs_old (hs_old (hs_old h2 hgp) hgp) hgp
      replace h5' : (w5.setCells p (j * 3) (ecells none).toList).heap[p5]? = some (.cells (pair k v) 91 (0, 0)) := hs_old (hs_old (hs_old h5' (show p5 ≠ p by omega)) (show p5 ≠ p by omega)) (show p5 ≠ p by omega)
      clear HP5 b4
      generalize w5.setCells p (j * 3) (ecells none).toList = w6 at *
      go_upto_region 7 with (fail)
      apply wp_region_lit
      refine wl_k rfl (fun K hK => ?_); go_simp; refine hK _ ?_; clear hK K
      ((with_reducible apply wl_rowG); exact rfl; exact rfl; exact rowPair h5')
      have hl6 : (ts.set j none).length = t.length := by simp [hln]
      have HL6 := Lib.hid hl6
      have hg6 : ∃ x, x < (ts.set j none).length ∧ occ (ts.set j none) x = false := ⟨j, by rw [hl6]; exact hjt, by rw [occ_unset hjl]; simp [Nat.mod_eq_of_lt hjl]⟩
      have HC := Lib.hid (put_any g p cap (ts.set j none) kd seed (cnt - 1) lv k v hks (by rw [hl6]; omega) (by rw [hl6]; omega) hg6 w6 (by rw [hl6]; exact h2) HP6.out hgp)
      clear hl6 hg6
      refine wl_ck rfl (fun K hK => ?_); go_simp; refine ⟨_, _, ⟨rfl, rfl⟩, hK _ _ ⟨_, HC.out, ?_⟩⟩; clear hK K; rintro e w7 ⟨rfl, hp7, hk7⟩; refine ⟨_, rfl, ?_⟩; simp only [put_lit, List.set_cons_zero, List.set_cons_succ]
      replace h2 := hk7.look h2 (by simp [hgp])
      replace HK := Lib.hid (HK.out.trans (hk7.mono (fun x _ hx => by simp at hx ⊢; exact Or.inr hx)))
      have HP7 := Lib.hid hp7
      clear hk7 hp7 HP6 HC h5'
      have b4 := (bc_cell h2).2.2.2.2
      have hmod : ((j : Int) + 1) % (t.length : Int) = (((i + (s + 1)) % t.length : Nat) : Int) := by
        rw [show (j : Int) + 1 = ((j + 1 : Nat) : Int) by simp, emod_nat, HJ.out, Nat.mod_add_mod, Nat.add_assoc]
      have HMOD := Lib.hid hmod
      clear hmod
      go_wp2_with fail
      go_roundw
      case rel =>
        have hstep := HM.out.step (HH seed) hsm HKV.out
        rw [hln, ← HJ.out] at hstep
        have hsw := HSW.out
        rw [show t.length + 1 - s = (t.length + 1 - (s + 1)) + 1 by omega] at hsw
        unfold sweep at hsw
        rw [HKV.out] at hsw
        simp only at hsw
        rw [hln, ← HJ.out] at hsw
        have hss : Short (layT (HH seed) (ts.set j none) k v) := (HSH.out.set hjl (o := none) (by decide)).set (Nat.mod_lt _ (by simp; omega)) hks
        exact ⟨s + 1, layT (HH seed) (ts.set j none) k v, by rw [layT_length, HL6.out], by omega, Lib.hid hstep, Lib.hid hss, by rw [HMOD.out], Lib.hid hsw, h2, HP7, HK⟩
      case measure =>
        show m - ((intOf (.int .i64 (((j : Int) + 1) % _))).toNat + t.length - i) % t.length < m - ((intOf (.int .i64 (j : Int))).toNat + t.length - i) % t.length
        rw [HMOD.out]
        simp only [intOf, Int.toNat_natCast]
        rw [off_back hi (by omega), HJ.out, off_back hi (by omega)]; omega
    · obtain rfl : s = m := by omega
      have htop : pl ts (i + s) = none := by have := HM.out.top; unfold occ at this; simpa using this
      have HR : Hid (ts = removeT (HH seed) t i) := Lib.hid (by
        rw [← HSW.out]
        obtain ⟨f, hf⟩ : ∃ f, t.length + 1 - s = f + 1 := ⟨t.length - s, by omega⟩
        rw [hf]; unfold sweep; rw [htop])
      rw [htop] at cu
      clear hpl htop
      go_wp2_with fail
      go_end0
      exact ⟨rfl, h2, by rw [← HR.out]; exact HP.out, HK.out⟩
end Go.Proofs.Ytbhdgeoljlhmcaa
