/- The law StoreCopies, walked. -/
import Derived.Test.YtbhdgeoljlhmcaaS37
import Derived.Test.YtbhdgeoljlhmcaaS39
import Derived.Test.YtbhdgeoljlhmcaaS40
import Derived.Outline
namespace Go.Proofs.Ytbhdgeoljlhmcaa
open Go.RowKit Go.Proofs.Ytbhdgeoljlhmcaa.Nm Go.Proofs.Ytbhdgeoljlhmcaa.St
set_option linter.unusedSimpArgs false
theorem u45 : Try.prog.underlying 45 = some (.array 2 5) := by kernel_rfl
theorem u5t : Try.prog.underlying 5 = some (.int .u8) := by kernel_rfl
theorem one5 {w : World} {ad : Addr} {v : Value} (h : w.cell? ad = some v) : OneAt w 5 ad v := one_of u5t rfl h
theorem tm8 {a : Nat} (_ : a < 256) : IntKind.i64.wrap (Int.tmod (a : Int) 8) = ((a % 8 : Nat) : Int) := by
  have e : Int.tmod (a : Int) 8 = ((a % 8 : Nat) : Int) := rfl
  rw [e, wrap_small _ (by omega) (by omega)]
theorem bu_copy (f t : Int) : Try.prog.built 39 [(0, .int .i64 2), (1, .int .i64 f), (2, .int .i64 t)] = some (OpV.cells ⟨2, f, t, 0, 0, ⟨#[]⟩⟩) := by kernel_rfl
theorem wl_valG {ops : Array Oper} {rest : List Oper} {o : Oper} {a : Act} {w : World} {Q : Exit → Act → World → Prop} {v : Value} (hg : Region.wanted o (yielded ops a.tmps) = true) (hv : (execOp a.eval o).run Try.prog w = .ok (.value v) w) (h : wpList Try.prog ops Q rest (a.put o.dst v) w) : wpList Try.prog ops Q (o :: rest) a w :=
  wl_k hg (fun _ hK => ⟨v, hv, hK _ h⟩)
/-- an item held beside a store -/
def HeldI (w : World) (s : Nat) (rs : List Row) (p : Nat) (b : Buf) (A : Option Addr) (c : Nat) (A2 : Option Addr) (c2 : Nat) : Prop :=
  w.heap[p]? = some (.cells (icells b.kd (.slice A b.l.length c) b.seed (.slice A2 (pairsT b.t).length c2)) 32 (0, 0)) ∧ ¬ Foot s rs p ∧ w.ownsRow 0 9 1 (.slice A b.l.length c) b.l.length (strs b.l) ∧ Clear s rs (.slice A b.l.length c) ∧
    w.ownsRow 0 91 2 (.slice A2 (pairsT b.t).length c2) (pairsT b.t).length (prow (pairsT b.t)) ∧ Clear s rs (.slice A2 (pairsT b.t).length c2)
theorem HeldI.below {w w' : World} {s : Nat} {rs : List Row} {p : Nat} {b : Buf} {A : Option Addr} {c : Nat} {A2 : Option Addr} {c2 : Nat} (h : HeldI w s rs p b A c A2 c2) (hb : Below w.heap.size w w') : HeldI w' s rs p b A c A2 c2 :=
  ⟨below_look hb h.1, h.2.1, own_below h.2.2.1 hb, h.2.2.2.1, own_below h.2.2.2.2.1 hb, h.2.2.2.2.2⟩
theorem HeldI.ran {w w' : World} {s : Nat} {rs rs' : List Row} {p : Nat} {b : Buf} {A : Option Addr} {c : Nat} {A2 : Option Addr} {c2 : Nat} (h : HeldI w s rs p b A c A2 c2) (hr : Ran s rs w rs' w') : HeldI w' s rs' p b A c A2 c2 :=
  ⟨(hr.block p (heap_lt h.1) h.2.1).trans h.1, fun hf => (hr.foot p hf).elim h.2.1 (fun e => by have := heap_lt h.1; omega), own_ran h.2.2.1 h.2.2.2.1 hr, h.2.2.2.1.ran (own_lt h.2.2.1) hr, own_ran h.2.2.2.2.1 h.2.2.2.2.2 hr, h.2.2.2.2.2.ran (own_lt h.2.2.2.2.1) hr⟩
theorem HeldI.item {w : World} {s : Nat} {rs : List Row} {p : Nat} {b : Buf} {A : Option Addr} {c : Nat} {A2 : Option Addr} {c2 : Nat} (h : HeldI w s rs p b A c A2 c2) : ItemAt w 0 (.agg (icells b.kd (.slice A b.l.length c) b.seed (.slice A2 (pairsT b.t).length c2))) b :=
  ⟨_, _, rfl, h.2.2.1, h.2.2.2.2.1⟩
theorem buf_small {A : Sto} (hA : Good A) (n : Int) : (A.buf n).l.length ≤ 1000 ∧ (A.buf n).t.length ≤ 1000 := by
  cases hq : A.id n with
  | none => rw [buf_none hq]; exact ⟨Nat.zero_le _, Nat.zero_le _⟩
  | some k =>
    have hl := id_lt hA hq
    have := (hA.bufs k (A.buf n) (by rw [buf_some hq, List.getD_eq_getElem?_getD, List.getElem?_eq_getElem hl]; rfl)).len
    omega
set_option maxHeartbeats 4000000 in
set_option maxRecDepth 100000 in
theorem StoreCopies_any (A1 : Option Addr) (n1 c1 : Nat) (l1 : List OpV) (A2 : Option Addr) (n2 c2 : Nat) (l2 : List OpV) (a b : Nat) (ha : a < 256) (hb : b < 256) (w : World) (h1 : OpsAt w A1 n1 l1) (h2 : OpsAt w A2 n2 l2) :
    Calls Try.prog 5 #[.slice A1 n1 c1, .slice A2 n2 c2, .agg #[.int .u8 (a : Int), .int .u8 (b : Int)]] w fun e w' => e = .returned (.bool true) ∧ Below w.heap.size w w' := by
  have HO1 := Lib.hid h1
  have HO2 := Lib.hid h2
  clear h1 h2
  go_enter Try.func5, Try.ntmps5
  go_upto_region 1 with (fail)
  have hbz := (Below.refl w.heap.size w).alloc (Nat.le_refl _) (.cells #[.int .u8 (a : Int), .int .u8 (b : Int)] 45)
  refine wp_world (fun W => Below w.heap.size w W ∧ W.heap[w.heap.size]? = some (.cells #[.int .u8 (a : Int), .int .u8 (b : Int)] 45 (0, 0))) ⟨hbz, ha_new rfl⟩ ?_
  clear hbz
  rintro W ⟨hbw, g0⟩
  apply wp_region_lit
  refine wl_k rfl (fun K hK => ?_); go_simp; refine hK _ ?_; clear hK K
  refine wl_ck rfl (fun K hK => ?_); go_simp; refine ⟨_, _, ⟨rfl, rfl⟩, hK _ _ ⟨_, heavy_any A1 n1 c1 l1 _ (HO1.out.below hbw), ?_⟩⟩; clear hK K; rintro e w1 ⟨q1, rfl, hle1, hb1⟩; refine ⟨_, rfl, ?_⟩; simp only [put_lit, List.set_cons_zero, List.set_cons_succ]
  replace g0 := below_look hb1 g0
  replace hbw := hbw.trans (hb1.mono hbw.size)
  clear hb1
  cases q1 with
  | true =>
    clear hle1
    go_wp2_with fail
    go_ret
    exact ⟨rfl, hbw⟩
  | false =>
    have hn1 := hle1 rfl
    clear hle1
    refine wl_k rfl (fun K hK => ?_); go_simp; refine hK _ ?_; clear hK K
    refine wl_k rfl (fun K hK => ?_); go_simp; refine hK _ ?_; clear hK K
    refine wl_ck rfl (fun K hK => ?_); go_simp; refine ⟨_, _, ⟨rfl, rfl⟩, hK _ _ ⟨_, heavy_any A2 n2 c2 l2 _ (HO2.out.below hbw), ?_⟩⟩; clear hK K; rintro e w2 ⟨q2, rfl, hle2, hb1⟩; refine ⟨_, rfl, ?_⟩; simp only [put_lit, List.set_cons_zero, List.set_cons_succ]
    replace g0 := below_look hb1 g0
    replace hbw := hbw.trans (hb1.mono hbw.size)
    clear hb1
    cases q2 with
    | true =>
      clear hle2
      go_wp2_with fail
      go_ret
      exact ⟨rfl, hbw⟩
    | false =>
      have hn2 := hle2 rfl
      clear hle2
      have x0 : w2.cell? ⟨w.heap.size, 0, none⟩ = some (.int .u8 (a : Int)) := by rw [cell_of_row _ _ _ _ _ _ g0]; rfl
      have x1 : w2.cell? ⟨w.heap.size, 1, none⟩ = some (.int .u8 (b : Int)) := by rw [cell_of_row _ _ _ _ _ _ g0]; rfl
      clear g0
      go_upto_region 3 with (fail)
      refine wp_region_held_drew (S := Kept [] w2) mixed (Kept.drew [] w2) (fun hS => ?_)
      refine ha_k (i := 0) rfl (by kernel_rfl) (by kernel_rfl) (by kernel_rfl) (fun _ _ _ _ h => h) hS rfl (fun K hK => ?_); go_simp; refine hK _ ?_; clear hK K; try simp only [put_lit, List.set_cons_zero, List.set_cons_succ]
      refine ha_val (i := 1) rfl (by kernel_rfl) (by kernel_rfl) (by kernel_rfl) (fun _ _ _ h => h) hS rfl (fun w' hw' => ex_one rfl (one5 (hw'.cell x0 (by simp <;> omega)))) ?_; try simp only [put_lit, List.set_cons_zero, List.set_cons_succ]
      refine ha_k (i := 2) rfl (by kernel_rfl) (by kernel_rfl) (by kernel_rfl) (fun _ _ _ _ h => h) hS rfl (fun K hK => ?_); go_simp; refine hK _ ?_; clear hK K; try simp only [put_lit, List.set_cons_zero, List.set_cons_succ]
      refine ha_k (i := 3) rfl (by kernel_rfl) (by kernel_rfl) (by kernel_rfl) (fun _ _ _ _ h => h) hS rfl (fun K hK => ?_); go_simp; refine hK _ ?_; clear hK K; try simp only [put_lit, List.set_cons_zero, List.set_cons_succ]
      refine ha_k (i := 4) rfl (by kernel_rfl) (by kernel_rfl) (by kernel_rfl) (fun _ _ _ _ h => h) hS rfl (fun K hK => ?_); go_simp; refine hK _ ?_; clear hK K; try simp only [put_lit, List.set_cons_zero, List.set_cons_succ]
      refine ha_val (i := 5) rfl (by kernel_rfl) (by kernel_rfl) (by kernel_rfl) (fun _ _ _ h => h) hS rfl (fun w' hw' => ex_one rfl (one5 (hw'.cell x1 (by simp <;> omega)))) ?_; try simp only [put_lit, List.set_cons_zero, List.set_cons_succ]
      refine ha_k (i := 6) rfl (by kernel_rfl) (by kernel_rfl) (by kernel_rfl) (fun _ _ _ _ h => h) hS rfl (fun K hK => ?_); go_simp; refine hK _ ?_; clear hK K; try simp only [put_lit, List.set_cons_zero, List.set_cons_succ]
      refine ha_k (i := 7) rfl (by kernel_rfl) (by kernel_rfl) (by kernel_rfl) (fun _ _ _ _ h => h) hS rfl (fun K hK => ?_); go_simp; refine hK _ ?_; clear hK K; try simp only [put_lit, List.set_cons_zero, List.set_cons_succ]
      refine ha_k (i := 8) rfl (by kernel_rfl) (by kernel_rfl) (by kernel_rfl) (fun _ _ _ _ h => h) hS rfl (fun K hK => ?_); go_simp; refine hK _ ?_; clear hK K; try simp only [put_lit, List.set_cons_zero, List.set_cons_succ]
      refine ha_k (i := 9) rfl (by kernel_rfl) (by kernel_rfl) (by kernel_rfl) (fun _ _ _ _ h => h) hS rfl (fun K hK => ?_); go_simp; refine hK _ ?_; clear hK K; try simp only [put_lit, List.set_cons_zero, List.set_cons_succ]
      refine wpAnyH_done (by kernel_rfl) ?_ _
      replace hbw := hbw.drew
      clear hS x0 x1
      generalize w2.drew = w2 at *
      rw [tm8 ha, tm8 hb]
      obtain ⟨f, hf⟩ : ∃ f, f = a % 8 := ⟨_, rfl⟩
      obtain ⟨t, ht⟩ : ∃ t, t = b % 8 := ⟨_, rfl⟩
      rw [← hf, ← ht]
      have hf8 : f < 8 := by omega
      have ht8 : t < 8 := by omega
      clear hf ht
      go_upto_region 4 with (fail)
      apply wp_region_lit
      refine wl_ck rfl (fun K hK => ?_); go_simp; refine ⟨_, _, ⟨rfl, rfl⟩, hK _ _ ⟨_, New_any w2, ?_⟩⟩; clear hK K; rintro e w3 ⟨rfl, hst, hb2⟩; refine ⟨_, rfl, ?_⟩; simp only [put_lit, List.set_cons_zero, List.set_cons_succ]
      obtain ⟨s, hs⟩ : ∃ s, s = (w2).heap.size := ⟨_, rfl⟩
      have HS := Lib.hid hst
      have HSI0 := Lib.hid (since_new w2)
      have hz1 := hbw.size
      rw [← hs] at HS ⊢
      have HSI : Hid (Since w.heap.size s []) := Lib.hid (fun q hq => by have := HSI0.out q (by rw [← hs]; exact hq); omega)
      replace hbw := hbw.trans (hb2.mono hz1)
      clear hst hs hb2 hz1 HSI0
      go_wp2_with fail
      go_loopw [10] (fun i wr => ∃ (j : Nat) (rs : List Row), j ≤ n1 ∧ i = .int .i64 (j : Int) ∧ Hid (StoreAt wr s (stA l1 j) rs) ∧ Hid (Since w.heap.size s rs) ∧ Below w.heap.size w wr) (fun i _ => n1 - (intOf i).toNat)
      case atStart => exact ⟨0, [], by omega, rfl, HS, HSI, hbw⟩
      case round =>
        clear HS HSI hbw
        obtain ⟨j, rs, hj, rfl, HS, HSI, hbw⟩ := hrel
        by_cases hlt : j < n1
        · have hltI : (j : Int) < (n1 : Int) := by omega
          obtain ⟨b, off, rfl⟩ := HO1.out.addr hlt
          obtain ⟨o, ho⟩ : ∃ o, l1[j]? = some o := ⟨_, List.getElem?_eq_getElem (by rw [HO1.out.1]; exact hlt)⟩
          have HOJ := Lib.hid ho
          have HST := Lib.hid (stA_step HOJ.out (show j < 200 by omega))
          have hbd := stA_bound l1 j
          have HG := Lib.hid (stA_good l1 j)
          clear ho
          go_upto_region 10 with (fail)
          apply wp_region_lit
          refine wl_k rfl (fun K hK => ?_); go_simp; refine hK _ ?_; clear hK K
          refine wl_k rfl (fun K hK => ?_); go_simp; refine hK _ ?_; clear hK K
          refine wl_k rfl (fun K hK => ?_); go_simp; refine hK _ ?_; clear hK K
          refine wl_k rfl (fun K hK => ?_); go_simp; refine hK _ ?_; clear hK K
          ((with_reducible apply wl_rowG); exact rfl; exact rfl; exact (HO1.out.below hbw).row HOJ.out)
          simp only [put_lit, List.set_cons_zero, List.set_cons_succ]
          have hz6 := hbw.size
          refine wl_ck rfl (fun K hK => ?_); go_simp; refine ⟨_, _, ⟨rfl, rfl⟩, hK _ _ ⟨_, Do_any s (stA l1 j) rs (stA_good l1 j) (by omega) hbd.2.1 (by omega) o _ HS.out, ?_⟩⟩; clear hK K; rintro e w7 ⟨rfl, rs2, hst2, hran⟩; refine ⟨_, rfl, ?_⟩; simp only [put_lit, List.set_cons_zero, List.set_cons_succ]
          rw [← HST.out.1] at hst2
          replace HS := Lib.hid hst2
          replace hbw := hbw.trans (hran.toBelow HSI.out hbw.size)
          replace HSI := Lib.hid (HSI.out.ran hran hz6)
          clear hst2 hran hz6 HOJ HST HG hbd
          go_wp2_with fail
          go_roundw
          case rel => exact ⟨j + 1, rs2, by omega, by go_num, HS, HSI, hbw⟩
          case measure => simp [intOf]; omega
        · obtain rfl : j = n1 := by omega
          have hbd := stA_bound l1 j
          have HG := Lib.hid (stA_good l1 j)
          obtain ⟨A, hA⟩ : ∃ A, A = stA l1 j := ⟨_, rfl⟩
          rw [← hA] at HS HG hbd
          clear hA
          by_cases hft : f = t
          · subst hft
            go_upto_region 11 with (fail)
            apply wp_region_lit
            refine wl_k rfl (fun K hK => ?_); go_simp; refine hK _ ?_; clear hK K
            refine wl_k rfl (fun K hK => ?_); go_simp; refine hK _ ?_; clear hK K
            refine wl_k rfl (fun K hK => ?_); go_simp; refine hK _ ?_; clear hK K
            refine wl_k rfl (fun K hK => ?_); go_simp; refine hK _ ?_; clear hK K
            (refine wl_skip (by kernel_rfl) ?_; simp only [put_lit, List.set_cons_zero, List.set_cons_succ])
            (refine wl_skip (by kernel_rfl) ?_; simp only [put_lit, List.set_cons_zero, List.set_cons_succ])
            (refine wl_skip (by kernel_rfl) ?_; simp only [put_lit, List.set_cons_zero, List.set_cons_succ])
            (refine wl_skip (by kernel_rfl) ?_; simp only [put_lit, List.set_cons_zero, List.set_cons_succ])
            (refine wl_skip (by kernel_rfl) ?_; simp only [put_lit, List.set_cons_zero, List.set_cons_succ])
            (refine wl_skip (by kernel_rfl) ?_; simp only [put_lit, List.set_cons_zero, List.set_cons_succ])
            refine wl_k rfl (fun K hK => ?_); go_simp; refine hK _ ?_; clear hK K
            go_upto_region 12 with (fail)
            apply wp_region_lit
            refine wl_k rfl (fun K hK => ?_); go_simp; refine hK _ ?_; clear hK K
            refine wl_k rfl (fun K hK => ?_); go_simp; refine hK _ ?_; clear hK K
            refine wl_k rfl (fun K hK => ?_); go_simp; refine hK _ ?_; clear hK K
            refine wl_k rfl (fun K hK => ?_); go_simp; refine hK _ ?_; clear hK K
            refine wl_ck rfl (fun K hK => ?_); go_simp; refine ⟨_, _, ⟨rfl, rfl⟩, hK _ _ ⟨_, awake_any _, ?_⟩⟩; clear hK K; rintro e w9 ⟨rfl, hb1⟩; refine ⟨_, rfl, ?_⟩; simp only [put_lit, List.set_cons_zero, List.set_cons_succ]
            replace hbw := hbw.trans (hb1.mono hbw.size)
            clear hb1
            go_wp2_with fail
            go_ret
            exact ⟨rfl, hbw⟩
          · have hftI : ¬ (f : Int) = (t : Int) := by omega
            have hd : ((f : Int) == (t : Int)) = false := by simpa using hftI
            go_upto_region 11 with (fail)
            apply wp_region_lit
            refine wl_k rfl (fun K hK => ?_); go_simp; refine hK _ ?_; clear hK K
            refine wl_k rfl (fun K hK => ?_); go_simp; refine hK _ ?_; clear hK K
            refine wl_k rfl (fun K hK => ?_); go_simp; refine hK _ ?_; clear hK K
            refine wl_k rfl (fun K hK => ?_); go_simp; refine hK _ ?_; clear hK K
            refine wl_k rfl (fun K hK => ?_); go_simp; refine hK _ ?_; clear hK K
            refine wl_k rfl (fun K hK => ?_); go_simp; refine hK _ ?_; clear hK K
            refine wl_k rfl (fun K hK => ?_); go_simp; refine hK _ ?_; clear hK K
            refine wl_valG (by kernel_rfl) (ex_build 39 _ rfl (L := [(0, .int .i64 2), (1, .int .i64 (f : Int)), (2, .int .i64 (t : Int))]) rfl (bu_copy f t)) ?_
            simp only [put_lit, List.set_cons_zero, List.set_cons_succ]
            have hz6 := hbw.size
            have hrc := ref_copy A (f := (f : Int)) (t := (t : Int)) (by omega) (by omega) (by omega) (by omega)
            refine wl_ck rfl (fun K hK => ?_); go_simp; refine ⟨_, _, ⟨rfl, rfl⟩, hK _ _ ⟨_, Do_any s A rs HG.out (by omega) hbd.2.1 (by omega) ⟨2, (f : Int), (t : Int), 0, 0, ⟨#[]⟩⟩ _ HS.out, ?_⟩⟩; clear hK K; rintro e w7 ⟨rfl, rs2, hst2, hran⟩; refine ⟨_, rfl, ?_⟩; simp only [put_lit, List.set_cons_zero, List.set_cons_succ]
            rw [hrc]
            have hbd2 := doA_bound A ⟨2, (f : Int), (t : Int), 0, 0, ⟨#[]⟩⟩
            replace HG := Lib.hid (good_do HG.out ⟨2, (f : Int), (t : Int), 0, 0, ⟨#[]⟩⟩)
            replace HS := Lib.hid hst2
            replace hbw := hbw.trans (hran.toBelow HSI.out hbw.size)
            replace HSI := Lib.hid (HSI.out.ran hran hz6)
            obtain ⟨A', hA'⟩ : ∃ A', A' = doA A ⟨2, (f : Int), (t : Int), 0, 0, ⟨#[]⟩⟩ := ⟨_, rfl⟩
            rw [← hA'] at HS HG hbd2
            clear hst2 hran hz6 hrc hA'
            go_upto_region 13 with (fail)
            apply wp_region_lit
            refine wl_k rfl (fun K hK => ?_); go_simp; refine hK _ ?_; clear hK K
            refine wl_k rfl (fun K hK => ?_); go_simp; refine hK _ ?_; clear hK K
            refine wl_ck rfl (fun K hK => ?_); go_simp; refine ⟨_, _, ⟨rfl, rfl⟩, hK _ _ ⟨_, Item_yes s A' rs2 HG.out f (by omega) _ HS.out, ?_⟩⟩; clear hK K; rintro e w8 ⟨v, rfl, hit, hb1⟩; refine ⟨_, rfl, ?_⟩; simp only [put_lit, List.set_cons_zero, List.set_cons_succ]
            obtain ⟨B1, d1, B2, d2, rfl, ho1, ho2⟩ := hit.shape
            have hcl1 : Clear s rs2 (.slice B1 (A'.buf (f : Int)).l.length d1) := fun q hq hf => by have := (own_block ho1 hq).1; have := HS.out.lt hf; omega
            have hcl2 : Clear s rs2 (.slice B2 (pairsT (A'.buf (f : Int)).t).length d2) := fun q hq hf => by have := (own_block ho2 hq).1; have := HS.out.lt hf; omega
            replace HS := Lib.hid (HS.out.below hb1)
            replace hbw := hbw.trans (hb1.mono hbw.size)
            clear hit hb1
            refine wl_k rfl (fun K hK => ?_); go_simp; refine hK _ ?_; clear hK K
            refine wl_k rfl (fun K hK => ?_); go_simp; refine hK _ ?_; clear hK K
            refine wl_k rfl (fun K hK => ?_); go_simp; refine hK _ ?_; clear hK K
            refine wl_new (fun ev w => ex_alloc32 rfl ev w) ?_
            intro W5 p5 hb5 hl5 h5
            refine wl_putG p5 (icells (A'.buf (f : Int)).kd (.slice B1 (A'.buf (f : Int)).l.length d1) (A'.buf (f : Int)).seed (.slice B2 (pairsT (A'.buf (f : Int)).t).length d2)) rfl rfl 32 _ h5 info32 rfl (icells_one _ _ _ _ _ _ _ _) ?_
            rw [put_noneA]
            have hbb := below_setRow hb5 (g := p5) hl5 (icells (A'.buf (f : Int)).kd (.slice B1 (A'.buf (f : Int)).l.length d1) (A'.buf (f : Int)).seed (.slice B2 (pairsT (A'.buf (f : Int)).t).length d2))
            have hnf : ¬ Foot s rs2 p5 := fun hf => by have := HS.out.lt hf; omega
            have HI : Hid (HeldI (W5.setRow p5 (icells (A'.buf (f : Int)).kd (.slice B1 (A'.buf (f : Int)).l.length d1) (A'.buf (f : Int)).seed (.slice B2 (pairsT (A'.buf (f : Int)).t).length d2))) s rs2 p5 (A'.buf (f : Int)) B1 d1 B2 d2) :=
              Lib.hid ⟨hr_new h5, hnf, own_weak (own_below ho1 hbb) (Nat.zero_le _), hcl1, own_weak (own_below ho2 hbb) (Nat.zero_le _), hcl2⟩
            replace HS := Lib.hid (HS.out.below hbb)
            replace hbw := hbw.trans (hbb.mono hbw.size)
            clear hb5 h5 hbb hl5 ho1 ho2 hcl1 hcl2 hnf
            generalize W5.setRow p5 (icells (A'.buf (f : Int)).kd (.slice B1 (A'.buf (f : Int)).l.length d1) (A'.buf (f : Int)).seed (.slice B2 (pairsT (A'.buf (f : Int)).t).length d2)) = w9 at *
            obtain ⟨B0, hB0⟩ : ∃ B0, B0 = A'.buf (f : Int) := ⟨_, rfl⟩
            rw [← hB0] at HI ⊢
            have HB0 : Hid (A'.buf (f : Int) = B0) := Lib.hid hB0.symm
            have HL0 : Hid (B0.l.length ≤ 1000 ∧ B0.t.length ≤ 1000) := Lib.hid (by rw [hB0]; exact buf_small HG.out _)
            clear hB0
            refine wl_k rfl (fun K hK => ?_); go_simp; refine hK _ ?_; clear hK K
            go_wp2_with fail
            have HA0 : Hid (A'.bufs.length ≤ 300 + 0 ∧ 0 ≤ A'.shared ∧ A'.shared ≤ 300 + ((0 : Nat) : Int)) := Lib.hid (by omega)
            have hn2' : n2 ≤ 200 := hn2
            clear hbd hbd2
            go_loopw [13] (fun i wr => ∃ (j2 : Nat) (rs : List Row) (X : Sto), j2 ≤ n2 ∧ i = .int .i64 (j2 : Int) ∧ Hid (StoreAt wr s X rs) ∧ Hid (Since w.heap.size s rs) ∧ Hid (Good X) ∧ Hid (X.buf (f : Int) = B0) ∧ Hid (X.bufs.length ≤ 300 + j2 ∧ 0 ≤ X.shared ∧ X.shared ≤ 300 + (j2 : Int)) ∧ Hid (HeldI wr s rs p5 B0 B1 d1 B2 d2) ∧ Below w.heap.size w wr) (fun i _ => n2 - (intOf i).toNat)
            case atStart => exact ⟨0, rs2, A', by omega, rfl, HS, HSI, HG, HB0, HA0, HI, hbw⟩
            case round =>
              clear HS HSI HG HB0 HA0 HI hbw
              obtain ⟨j2, rs3, X, hj2, rfl, HS, HSI, HG, HB0, HA0, HI, hbw⟩ := hrel
              by_cases hlt : j2 < n2
              · have hltI : (j2 : Int) < (n2 : Int) := by omega
                obtain ⟨bb, off, rfl⟩ := HO2.out.addr hlt
                obtain ⟨o, ho⟩ : ∃ o, l2[j2]? = some o := ⟨_, List.getElem?_eq_getElem (by rw [HO2.out.1]; exact hlt)⟩
                have HRO := Lib.hid ((HO2.out.below hbw).row ho)
                clear ho
                go_upto_region 17 with (fail)
                apply wp_region_lit
                refine wl_k rfl (fun K hK => ?_); go_simp; refine hK _ ?_; clear hK K
                refine wl_k rfl (fun K hK => ?_); go_simp; refine hK _ ?_; clear hK K
                refine wl_k rfl (fun K hK => ?_); go_simp; refine hK _ ?_; clear hK K
                ((with_reducible apply wl_rowG); exact rfl; exact rfl; exact HRO.out)
                simp only [put_lit, List.set_cons_zero, List.set_cons_succ]
                refine wl_new (fun ev w => ex_alloc39 rfl ev w) ?_
                intro W7 p7 hb7 hl7 h7
                refine wl_putG p7 o.cells rfl rfl 39 _ h7 info39 rfl (op_one _) ?_
                rw [put_noneA]
                have hbb := below_setRow hb7 (g := p7) hl7 o.cells
                have hnf7 : ¬ Foot s rs3 p7 := fun hf => by have := HS.out.lt hf; omega
                have hnp7 : p5 ≠ p7 := by have := heap_lt HI.out.1; omega
                replace HS := Lib.hid (HS.out.below hbb)
                replace HI := Lib.hid (HI.out.below hbb)
                have hz7 := hbw.size
                replace hbw := hbw.trans (hbb.mono hbw.size)
                have h7' := hr_new (cs := o.cells) h7
                have hpw : w.heap.size ≤ p7 := by omega
                clear hb7 h7 hbb HRO hl7 hz7
                generalize W7.setRow p7 o.cells = w10 at *
                obtain ⟨kd, fr, to, at_, n, key⟩ := o
                obtain ⟨y0, y1, -, -, -, -⟩ := op_cell h7'
                simp only at y0 y1
                by_cases hk : kd = 3 ∨ kd = 4 ∨ kd = 5 ∨ kd = 7 ∨ kd = 9 ∨ kd = 10
                · have haim : Hid (aim ⟨kd, (t : Int), to, at_, n, key⟩ = (t : Int)) := Lib.hid (by unfold aim; simp only; rw [if_neg (by omega)])
                  have h7o : w10.frozen? ⟨p7, 1, none⟩ = false := frozen_of_row _ _ _ _ _ h7'
                  have hsame : ∀ q, q ≠ p7 → (w10.setCell ⟨p7, 1, none⟩ (.int .i64 (t : Int))).heap[q]? = w10.heap[q]? := fun q hq => heap_setCell_other _ _ _ _ hq
                  have h7n : (w10.setCell ⟨p7, 1, none⟩ (.int .i64 (t : Int))).heap[p7]? = some (.cells (OpV.cells ⟨kd, (t : Int), to, at_, n, key⟩) 39 (0, 0)) := (hs_new h7').trans rfl
                  replace HS := Lib.hid (HS.out.same (w' := w10.setCell ⟨p7, 1, none⟩ (.int .i64 (t : Int))) (fun q _ hf => hsame q (fun e => hnf7 (e ▸ hf))))
                  have HI2 : Hid (HeldI (w10.setCell ⟨p7, 1, none⟩ (.int .i64 (t : Int))) s rs3 p5 B0 B1 d1 B2 d2) := Lib.hid (by
                    have h9 := HI.out
                    refine ⟨(hsame p5 hnp7).trans h9.1, h9.2.1, own_same h9.2.2.1 (fun q _ hq => hsame q (fun e => ?_)), h9.2.2.2.1, own_same h9.2.2.2.2.1 (fun q _ hq => hsame q (fun e => ?_)), h9.2.2.2.2.2⟩
                    · obtain ⟨_, c9, hc9⟩ := own_block h9.2.2.1 hq
                      rw [e, h7'] at hc9; simp only [Option.some.injEq, Obj.cells.injEq] at hc9; exact absurd hc9.2.1 (by decide)
                    · obtain ⟨_, c9, hc9⟩ := own_block h9.2.2.2.2.1 hq
                      rw [e, h7'] at hc9; simp only [Option.some.injEq, Obj.cells.injEq] at hc9; exact absurd hc9.2.1 (by decide))
                  have hbw2 : Below w.heap.size w (w10.setCell ⟨p7, 1, none⟩ (.int .i64 (t : Int))) := hbw.setCell (p := ⟨p7, 1, none⟩) hpw _
                  have HDO := Lib.hid (do_other HG.out ⟨kd, (t : Int), to, at_, n, key⟩ (m := (f : Int)) (by omega) (by omega) (fun _ => by rw [haim.out]; exact hftI))
                  have HGD := Lib.hid (good_do HG.out ⟨kd, (t : Int), to, at_, n, key⟩)
                  have HBD := Lib.hid (doA_bound X ⟨kd, (t : Int), to, at_, n, key⟩)
                  have HDC := Lib.hid (Do_any s X rs3 HG.out (by have := HA0.out; omega) HA0.out.2.1 (by have := HA0.out; omega) ⟨kd, (t : Int), to, at_, n, key⟩ _ HS.out)
                  clear haim hsame HI hnf7 hnp7 h7'
                  rcases hk with rfl | rfl | rfl | rfl | rfl | rfl
                  all_goals
                    go_upto_region 25 with (fail)
                    apply wp_region_lit
                    refine wl_k rfl (fun K hK => ?_); go_simp; refine hK _ ?_; clear hK K
                    refine wl_k rfl (fun K hK => ?_); go_simp; refine hK _ ?_; clear hK K
                    refine wl_storeC rfl 3 _ _ rfl p7 1 (.int .i64 (t : Int)) rfl rfl (by kernel_rfl) rfl (by rw [y1]; rfl) h7o ?_
                    rw [put_noneA]
                    clear y0 y1 h7o
                    generalize w10.setCell ⟨p7, 1, none⟩ (.int .i64 (t : Int)) = w11 at *
                    go_upto_region 26 with (fail)
                    apply wp_region_lit
                    refine wl_k rfl (fun K hK => ?_); go_simp; refine hK _ ?_; clear hK K
                    ((with_reducible apply wl_rowG); exact rfl; exact rfl; exact rowO h7n)
                    simp only [put_lit, List.set_cons_zero, List.set_cons_succ]
                    refine wl_ck rfl (fun K hK => ?_); go_simp; refine ⟨_, _, ⟨rfl, rfl⟩, hK _ _ ⟨_, HDC.out, ?_⟩⟩; clear hK K; rintro e w12 ⟨rfl, rs4, hst4, hran4⟩; refine ⟨_, rfl, ?_⟩; simp only [put_lit, List.set_cons_zero, List.set_cons_succ]
                    have HS4 := Lib.hid hst4
                    have HI4 := Lib.hid (HI2.out.ran hran4)
                    have HSI4 := Lib.hid (HSI.out.ran hran4 hbw2.size)
                    have hbw4 := hbw2.trans (hran4.toBelow HSI.out hbw2.size)
                    have HB4 : Hid ((doA X _).buf (f : Int) = B0) := Lib.hid (HDO.out.trans HB0.out)
                    clear hst4 hran4 HS HI2 HSI hbw2 hbw HDC h7n
                    go_wp2_with fail
                    refine ⟨?_, ?_⟩
                    · repeat apply Exists.intro
                      refine ⟨?_, rfl⟩
                      exact ⟨j2 + 1, rs4, doA X _, by omega, by go_num, HS4, HSI4, HGD, HB4, Lib.hid (by have := HA0.out; have := HBD.out; omega), HI4, hbw4⟩
                    · simp [intOf]; omega
                · have e1 : (kd == 3) = false := by simp; omega
                  have e2 : (kd == 4) = false := by simp; omega
                  have e3 : (kd == 5) = false := by simp; omega
                  have e4 : (kd == 7) = false := by simp; omega
                  have e5 : (kd == 9) = false := by simp; omega
                  have e6 : (kd == 10) = false := by simp; omega
                  have n1 : ¬ kd = 3 := by omega
                  have n2 : ¬ kd = 4 := by omega
                  have n3 : ¬ kd = 5 := by omega
                  have n4 : ¬ kd = 7 := by omega
                  have n5 : ¬ kd = 9 := by omega
                  have n6 : ¬ kd = 10 := by omega
                  clear hk hnf7 hnp7 h7' y1
                  go_wp2_with fail
                  refine ⟨?_, ?_⟩
                  · repeat apply Exists.intro
                    refine ⟨?_, rfl⟩
                    exact ⟨j2 + 1, rs3, X, by omega, by go_num, HS, HSI, HG, HB0, Lib.hid (by have := HA0.out; omega), HI, hbw⟩
                  · simp [intOf]; omega
              · obtain rfl : j2 = n2 := by omega
                have hff : (f : Int) < 8 := by omega
                go_upto_region 27 with (fail)
                apply wp_region_lit
                refine wl_k rfl (fun K hK => ?_); go_simp; refine hK _ ?_; clear hK K
                refine wl_k rfl (fun K hK => ?_); go_simp; refine hK _ ?_; clear hK K
                refine wl_ck rfl (fun K hK => ?_); go_simp; refine ⟨_, _, ⟨rfl, rfl⟩, hK _ _ ⟨_, Item_yes s X rs3 HG.out f hff _ HS.out, ?_⟩⟩; clear hK K; rintro e w13 ⟨v2, rfl, hit2, hb1⟩; refine ⟨_, rfl, ?_⟩; simp only [put_lit, List.set_cons_zero, List.set_cons_succ]
                rw [HB0.out] at hit2
                obtain ⟨E1, g1, E2, g2, rfl, ho1, ho2⟩ := hit2.shape
                replace HI := Lib.hid (HI.out.below hb1)
                replace hbw := hbw.trans (hb1.mono hbw.size)
                clear hb1 hit2
                refine wl_k rfl (fun K hK => ?_); go_simp; refine hK _ ?_; clear hK K
                refine wl_k rfl (fun K hK => ?_); go_simp; refine hK _ ?_; clear hK K
                refine wl_k rfl (fun K hK => ?_); go_simp; refine hK _ ?_; clear hK K
                refine wl_new (fun ev w => ex_alloc32 rfl ev w) ?_
                intro W8 p8 hb8 hl8 h8
                refine wl_putG p8 (icells B0.kd (.slice E1 B0.l.length g1) B0.seed (.slice E2 (pairsT B0.t).length g2)) rfl rfl 32 _ h8 info32 rfl (icells_one _ _ _ _ _ _ _ _) ?_
                rw [put_noneA]
                have hbb := below_setRow hb8 (g := p8) hl8 (icells B0.kd (.slice E1 B0.l.length g1) B0.seed (.slice E2 (pairsT B0.t).length g2))
                replace HI := Lib.hid (HI.out.below hbb)
                have HIT2 : Hid (ItemAt (W8.setRow p8 (icells B0.kd (.slice E1 B0.l.length g1) B0.seed (.slice E2 (pairsT B0.t).length g2))) 0 (.agg (icells B0.kd (.slice E1 B0.l.length g1) B0.seed (.slice E2 (pairsT B0.t).length g2))) B0) :=
                  Lib.hid ⟨_, _, rfl, own_weak (own_below ho1 hbb) (Nat.zero_le _), own_weak (own_below ho2 hbb) (Nat.zero_le _)⟩
                replace hbw := hbw.trans (hbb.mono hbw.size)
                have h8' := hr_new (cs := icells B0.kd (.slice E1 B0.l.length g1) B0.seed (.slice E2 (pairsT B0.t).length g2)) h8
                clear hb8 h8 hbb hl8 ho1 ho2
                generalize W8.setRow p8 (icells B0.kd (.slice E1 B0.l.length g1) B0.seed (.slice E2 (pairsT B0.t).length g2)) = w14 at *
                refine wl_k rfl (fun K hK => ?_); go_simp; refine hK _ ?_; clear hK K
                have HQ := Lib.hid (EqItem_at B0 B0 (by have := HL0.out.1; omega) (by have := HL0.out.2; have := pairsT_le B0.t; omega) rfl rfl rfl rfl HI.out.item HIT2.out)
                go_upto_region 28 with (fail)
                apply wp_region_lit
                refine wl_k rfl (fun K hK => ?_); go_simp; refine hK _ ?_; clear hK K
                refine wl_k rfl (fun K hK => ?_); go_simp; refine hK _ ?_; clear hK K
                refine wl_k rfl (fun K hK => ?_); go_simp; refine hK _ ?_; clear hK K
                refine wl_k rfl (fun K hK => ?_); go_simp; refine hK _ ?_; clear hK K
                refine wl_k rfl (fun K hK => ?_); go_simp; refine hK _ ?_; clear hK K
                refine wl_k rfl (fun K hK => ?_); go_simp; refine hK _ ?_; clear hK K
                refine wl_k rfl (fun K hK => ?_); go_simp; refine hK _ ?_; clear hK K
                ((with_reducible apply wl_rowG); exact rfl; exact rfl; exact rowIt HI.out.1)
                simp only [put_lit, List.set_cons_zero, List.set_cons_succ]
                ((with_reducible apply wl_rowG); exact rfl; exact rfl; exact rowIt h8')
                simp only [put_lit, List.set_cons_zero, List.set_cons_succ]
                refine wl_ck rfl (fun K hK => ?_); go_simp; refine ⟨_, _, ⟨rfl, rfl⟩, hK _ _ ⟨_, HQ.out, ?_⟩⟩; clear hK K; rintro e w15 ⟨rfl, hb1⟩; refine ⟨_, rfl, ?_⟩; simp only [put_lit, List.set_cons_zero, List.set_cons_succ]
                replace hbw := hbw.trans (hb1.mono hbw.size)
                clear hb1
                refine wl_k rfl (fun K hK => ?_); go_simp; refine hK _ ?_; clear hK K
                refine wl_k rfl (fun K hK => ?_); go_simp; refine hK _ ?_; clear hK K
                refine wl_ck rfl (fun K hK => ?_); go_simp; refine ⟨_, _, ⟨rfl, rfl⟩, hK _ _ ⟨_, awake_any _, ?_⟩⟩; clear hK K; rintro e w16 ⟨rfl, hb1⟩; refine ⟨_, rfl, ?_⟩; simp only [put_lit, List.set_cons_zero, List.set_cons_succ]
                replace hbw := hbw.trans (hb1.mono hbw.size)
                clear hb1
                go_wp2_with fail
                go_ret
                exact ⟨rfl, hbw⟩
end Go.Proofs.Ytbhdgeoljlhmcaa
