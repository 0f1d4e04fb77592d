/- A key looked for in a table, and an entry taken out, by the program. -/
import Derived.Test.YtbhdgeoljlhmcaaS3
import Derived.Outline
namespace Go.Proofs.Ytbhdgeoljlhmcaa
open Go.RowKit Go.Proofs.Ytbhdgeoljlhmcaa.Nm Go.Proofs.Ytbhdgeoljlhmcaa.St
set_option linter.unusedSimpArgs false
/-- where a key is, or -1 -/
def fnd (seed : Int) (t : Tab) (k : ByteArray) : Int := match findT (HH seed) t k with | none => -1 | some i => (i : Int)
theorem hit_iff {k : ByteArray} {o : Option (ByteArray × Int)} : hit k o = true ↔ o = none ∨ ek o = k ∧ eb o = true := by
  unfold hit ek eb; cases o with
  | none => simp
  | some x => simp
set_option maxHeartbeats 2000000 in
set_option maxRecDepth 100000 in
theorem find_any (g p cap : Nat) (t : Tab) (kd seed cnt : Int) (lv : Value) (k : ByteArray) (hk : k.size ≤ 1000000000) (hn : 1 ≤ t.length) (hn2 : t.length ≤ 1000000) (hg : ∃ i, i < t.length ∧ occ t i = false) (w : World)
    (h0 : w.heap[g]? = some (.cells (bcells kd lv seed cnt (.slice (some ⟨p, 0, none⟩) t.length cap)) 87 (0, 0))) (hp : PlAt w p cap t) :
    Calls Try.prog 56 #[.pointer (some ⟨g, 0, none⟩), .string k] w fun e w' => e = .returned (.int .i64 (fnd seed t k)) ∧ Below w.heap.size w w' := by
  have HP := Lib.hid (hp.below (Below.refl _ w).drew)
  have HG := Lib.hid hg
  clear hp hg
  have b2 := (bc_cell h0).2.2.1
  have b4 := (bc_cell h0).2.2.2.2
  have hne : ¬ t = [] := fun e => by rw [e] at hn; simp at hn
  have hmod := Lib.hid (tmod_nat (HH seed k) t.length)
  go_enter Try.func56, Try.ntmps56
  go_upto_region 1 with (fail)
  refine wp_region_held_drew (S := Kept [] w) mixed (Kept.drew [] w) (fun hS => ?_)
  refine ha_k (i := 0) rfl (by kernel_rfl) (by kernel_rfl) (by kernel_rfl) (fun _ _ _ _ h => h) hS rfl (fun K hK => ?_); go_simp; refine hK _ ?_; clear hK K; try simp only [put_lit, List.set_cons_zero, List.set_cons_succ]
  refine ha_k (i := 1) rfl (by kernel_rfl) (by kernel_rfl) (by kernel_rfl) (fun _ _ _ _ h => h) hS rfl (fun K hK => ?_); go_simp; refine hK _ ?_; clear hK K; try simp only [put_lit, List.set_cons_zero, List.set_cons_succ]
  refine ha_k (i := 2) rfl (by kernel_rfl) (by kernel_rfl) (by kernel_rfl) (fun _ _ _ _ h => h) hS rfl (fun K hK => ?_); go_simp; refine hK _ ?_; clear hK K; try simp only [put_lit, List.set_cons_zero, List.set_cons_succ]
  refine ha_k (i := 3) rfl (by kernel_rfl) (by kernel_rfl) (by kernel_rfl) (fun _ _ _ _ h => h) hS rfl (fun K hK => ?_); go_simp; refine hK _ ?_; clear hK K; try simp only [put_lit, List.set_cons_zero, List.set_cons_succ]
  refine ha_val (i := 4) rfl (by kernel_rfl) (by kernel_rfl) (by kernel_rfl) (fun _ _ _ h => h) hS rfl (fun w' hw' => ex_one rfl (one3 (hw'.cell b2 (by simp <;> omega)))) ?_; try simp only [put_lit, List.set_cons_zero, List.set_cons_succ]
  refine ha_k (i := 6) rfl (by kernel_rfl) (by kernel_rfl) (by kernel_rfl) (fun _ _ _ _ h => h) hS rfl (fun K hK => ?_); go_simp; refine hK _ ?_; clear hK K; try simp only [put_lit, List.set_cons_zero, List.set_cons_succ]
  refine ha_k (i := 7) rfl (by kernel_rfl) (by kernel_rfl) (by kernel_rfl) (fun _ _ _ _ h => h) hS rfl (fun K hK => ?_); go_simp; refine hK _ ?_; clear hK K; try simp only [put_lit, List.set_cons_zero, List.set_cons_succ]
  refine ha_k (i := 8) rfl (by kernel_rfl) (by kernel_rfl) (by kernel_rfl) (fun _ _ _ _ h => h) hS rfl (fun K hK => ?_); go_simp; refine hK _ ?_; clear hK K; try simp only [put_lit, List.set_cons_zero, List.set_cons_succ]
  refine ha_val (i := 9) rfl (by kernel_rfl) (by kernel_rfl) (by kernel_rfl) (fun _ _ _ h => h) hS rfl (fun w' hw' => ex_one rfl (one85 (hw'.cell b4 (by simp <;> omega)))) ?_; try simp only [put_lit, List.set_cons_zero, List.set_cons_succ]
  refine ha_k (i := 10) rfl (by kernel_rfl) (by kernel_rfl) (by kernel_rfl) (fun _ _ _ _ h => h) hS rfl (fun K hK => ?_); go_simp; refine hK _ ?_; clear hK K; try simp only [put_lit, List.set_cons_zero, List.set_cons_succ]
  refine ha_call (i := 5) (by kernel_rfl) rfl rfl (fun K hK => ?_); go_simp; refine ⟨_, _, ⟨rfl, rfl⟩, hK _ _ ⟨_, Hash_b k hk seed _, ?_⟩⟩; clear hK K; rintro e w1 ⟨rfl, hb1⟩; refine ⟨_, rfl, hS.below hb1, ?_⟩; replace hS := hS.below hb1; (replace h0 := below_look hb1 h0; replace HP := Lib.hid (HP.out.below hb1)); try simp only [put_lit, List.set_cons_zero, List.set_cons_succ]
  refine ha_k (i := 11) rfl (by kernel_rfl) (by kernel_rfl) (by kernel_rfl) (fun _ _ _ _ h => h) hS rfl (fun K hK => ?_); go_simp; refine hK _ ?_; clear hK K; try simp only [put_lit, List.set_cons_zero, List.set_cons_succ]
  refine ha_k (i := 12) rfl (by kernel_rfl) (by kernel_rfl) (by kernel_rfl) (fun _ _ _ _ h => h) hS rfl (fun K hK => ?_); go_simp; refine hK _ ?_; clear hK K; try simp only [put_lit, List.set_cons_zero, List.set_cons_succ]
  refine wpAnyH_done (by kernel_rfl) ?_ _
  have hb : Below w.heap.size w w1 := (Below.refl _ w).drew.trans hb1
  clear hS b2 b4 hb1
  rw [hmod.out]
  have hj0 : HH seed k % t.length < t.length := Nat.mod_lt _ (by omega)
  have HT : Hid ((HH seed k % t.length + far t (hit k) (HH seed k % t.length) t.length) % t.length = seek (HH seed) t k) := Lib.hid (by rw [far_mod, Nat.mod_add_mod]; rfl)
  generalize HH seed k % t.length = j0 at hj0 HT
  clear hmod
  go_wp2_with fail
  go_loop [5] (fun v => ∃ j : Nat, j < t.length ∧ v = .int .i64 (j : Int) ∧ Hid ((j + far t (hit k) j t.length) % t.length = seek (HH seed) t k)) (fun v => far t (hit k) (intOf v).toNat t.length)
  case atStart => exact ⟨j0, hj0, rfl, HT⟩
  case round =>
    clear HT hj0
    obtain ⟨j, hj, rfl, HT⟩ := hrel
    have b4 := (bc_cell h0).2.2.2.2
    obtain ⟨cu, ck, _⟩ := HP.out.cell hj
    have hgap : ∃ d, d < t.length ∧ hit k (pl t (j + d)) = true := by
      obtain ⟨x, hx, hxo⟩ := HG.out
      obtain ⟨d, hd, hdx⟩ := off_of j hx
      refine ⟨d, hd, ?_⟩
      rw [← pl_mod, hdx, hit_iff]; unfold occ at hxo; left; simpa using hxo
    by_cases hh : hit k (pl t j) = true
    · have h0f : far t (hit k) j t.length = 0 := Nat.le_zero.1 (far_at (t := t) (p := hit k) (i := j) (f := t.length) (d := 0) (by omega) (by simpa using hh)).1
      have hsl : j = seek (HH seed) t k := by
        have := HT.out
        rwa [h0f, Nat.add_zero, Nat.mod_eq_of_lt hj] at this
      have HSL := Lib.hid hsl
      rcases hit_iff.1 hh with h1 | ⟨h1, h2⟩
      · have HR : Hid (fnd seed t k = -1) := Lib.hid (by
          unfold fnd findT; rw [← hsl, if_neg (by unfold occ; rw [h1]; simp)])
        rw [show eb (pl t j) = false by rw [h1]; rfl] at cu
        clear h0f hsl hh hgap h1 ck
        go_wp2_with fail
        go_ret
        exact ⟨by rw [HR.out]; rfl, hb⟩
      · have HR : Hid (fnd seed t k = (j : Int)) := Lib.hid (by
          unfold fnd findT; rw [← hsl, if_pos (by unfold occ; exact h2)])
        rw [h2] at cu
        rw [h1] at ck
        clear h0f hsl hh hgap h1 h2
        go_wp2_with fail
        go_ret
        exact ⟨by rw [HR.out]; rfl, hb⟩
    · have hmod : ((j : Int) + 1) % (t.length : Int) = (((j + 1) % t.length : Nat) : Int) := by rw [← emod_nat]; simp
      have HM := Lib.hid hmod
      have HN := Lib.hid (far_next (p := hit k) (i := j) (by simpa using hh) hgap)
      have hu : eb (pl t j) = true := by
        cases hq : eb (pl t j)
        · exact absurd (hit_iff.2 (Or.inl (by unfold eb at hq; simpa using hq))) hh
        · rfl
      have hkne : ((ek (pl t j)).toList == k.toList) = false := by
        rw [ByteArray.toList_eq, ByteArray.toList_eq, beq_eq_false_iff_ne]
        exact fun e => hh (hit_iff.2 (Or.inr ⟨ByteArray.ext (Array.toList_inj.1 e), hu⟩))
      rw [hu] at cu
      generalize ek (pl t j) = k' at ck hkne
      clear hmod hu hh hgap
      go_wp2_with fail
      go_round
      case rel => exact ⟨(j + 1) % t.length, Nat.mod_lt _ (by omega), by rw [HM.out], Lib.hid (by rw [far_mod, Nat.mod_add_mod, ← HT.out, HN.out]; congr 1; omega)⟩
      case measure =>
        show far t (hit k) (intOf (.int .i64 (((j : Int) + 1) % _))).toNat _ < far t (hit k) (intOf (.int .i64 (j : Int))).toNat _
        rw [HM.out]
        simp only [intOf, Int.toNat_natCast]
        rw [far_mod, HN.out]; omega
end Go.Proofs.Ytbhdgeoljlhmcaa
