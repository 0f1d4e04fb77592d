/- The law HeapOnce: states never fall. -/
import Derived.Test.YtpamocglecangaaPB23
import Derived.Test.YtpamocglecangaaPB22
import Derived.Test.YtpamocglecangaaPB15
namespace Go.Proofs.Ytpamocglecangaa
open Go.RowKit Go.Proofs.Ytpamocglecangaa.Nm
set_option linter.unusedSimpArgs false
theorem info3b : (Try.prog.info? 3).map (fun i => (i.zero, i.size, i.bytes)) = some (some (.int .i64 0), 1, 8) := by kernel_rfl
theorem elt28 : Elt 28 3 1 8 #[.int .i64 0] := by obtain ⟨i, a, b, c, d⟩ := info_parts info3b; exact ⟨u28, by decide, rfl, i, _, a, b, c, d, rfl⟩
theorem run_bs28 (x : Int) (w : World) : (Instr.buildSlice 28 1 #[(0, .int .i64 x)]).run Try.prog w = .ok (.slice (some ⟨w.heap.size, 0, none⟩) 1 1) (w.alloc (.cells #[.int .i64 x] 3)) := by kernel_rfl
theorem ex_bs28 {ev : Operand → Value} {o : Oper} {w : World} (y : Operand) (ho : o.op = .buildSlice 28 1 #[(0, y)]) {x : Int} (hx : ev y = .int .i64 x) :
    (execOp ev o).run Try.prog w = .ok (.value (.slice (some ⟨w.heap.size, 0, none⟩) 1 1)) (w.alloc (.cells #[.int .i64 x] 3)) := by
  unfold execOp
  have := run_bs28 x w
  simp [ho, hx, this, Result.andThen]
theorem SsAt.below {w w' : World} {l : List ByteArray} {A : Option Addr} {n : Nat} (h : SsAt w l A n) (hb : Below w.heap.size w w') : SsAt w' l A n := ⟨h.len, h.max, fun j s hj => by
  obtain ⟨b, off, e1, e2⟩ := h.el j s hj
  refine ⟨b, off, e1, ?_⟩
  have hl : b < w.heap.size := by
    rcases Nat.lt_or_ge b w.heap.size with h1 | h1
    · exact h1
    · unfold World.cell? at e2
      rw [Array.getElem?_eq_none h1] at e2
      simp at e2
  unfold World.cell? at e2 ⊢
  rw [hb.block b hl]; exact e2⟩
/-- The states of a heap's objects, as rows. -/
def stRows (l : List Ob) : List (Array Value) := l.map fun o => #[.int .i64 o.state]
theorem stRows_len (l : List Ob) : (stRows l).length = l.length := by simp [stRows]
theorem stRows_get {l : List Ob} {i : Nat} {o : Ob} (h : l[i]? = some o) : (stRows l)[i]? = some #[.int .i64 o.state] := by simp [stRows, h]
theorem OwnL.lt {w : World} {ty : TypeId} {sz : Nat} {A : Option Addr} {c : Nat} {rows : List (Array Value)} (h : OwnL w ty sz A c rows) {g : Nat} (e : A = some ⟨g, 0, none⟩) : g < w.heap.size := by
  rcases h.el with ⟨e1, -, -⟩ | ⟨g', cur, e1, e2, -⟩
  · rw [e1] at e; cases e
  · rw [e1] at e; cases e; exact heap_lt e2
set_option maxHeartbeats 16000000 in
set_option maxRecDepth 100000 in
theorem once_any {w : World} {D : Nat → Prop} {ns : List ByteArray} {A0 : Option Addr} {n0 c0 : Nat} {qs : List Cl} {A : Option Addr} {l c S : Nat} (hS : S ≤ 2000000) (hs : SsAt w ns A0 n0) (hm0 : n0 ≤ maxLen) (hc : ClsAt w D qs A l c) (hok : ∀ q, q ∈ qs → wVs q.l ≤ S ∧ wV q.v ≤ S ∧ wV q.x ≤ S) :
    Calls Try.prog 3 #[.slice A0 n0 c0, .slice A l c] w fun e w' => e = .returned (.bool true) ∧ Below w.heap.size w w' := by
  have HS := Lib.hid hs
  have HT := Lib.hid hc.low
  have HL := Lib.hid hc.len
  have hcm := hc.cap
  have hmx := hc.max
  unfold maxLen at hmx
  have HOK := Lib.hid hok
  have HBG := Lib.hid (big_any A0 n0 c0 hm0 qs A l c w D hc)
  have hb := Below.refl w.heap.size w
  clear hs hc hok
  go_enter Try.func3, Try.ntmps3
  go_upto_region 0 with (fail)
  apply wp_region_lit
  (with_reducible refine wl_k ?_ ?_); exact rfl; intro K hK; go_simp; refine hK _ ?_; clear hK K
  go_upto_region 1 with (fail)
  apply wp_region_lit
  (with_reducible refine wl_k ?_ ?_); exact rfl; intro K hK; go_simp; refine hK _ ?_; clear hK K
  (with_reducible refine wl_k ?_ ?_); exact rfl; intro K hK; go_simp; refine hK _ ?_; clear hK K
  (with_reducible refine wl_ck ?_ ?_); exact rfl; intro K hK; go_simp; refine ⟨_, _, ⟨rfl, rfl⟩, hK _ _ ⟨_, HBG.out, ?_⟩⟩; clear hK K; rintro e w1 ⟨⟨bb, rfl, HFB0⟩, hb1⟩; refine ⟨_, rfl, ?_⟩; simp only [put_lit, List.set_cons_zero, List.set_cons_succ]
  clear HBG
  cases bb with
  | true =>
    clear HFB0
    replace hb := hb.trans (hb1.mono hb.size)
    clear hb1
    go_upto_region 2 with (fail)
    apply wp_region_lit
    (with_reducible refine wl_ck ?_ ?_); exact rfl; intro K hK; go_simp; refine ⟨_, _, ⟨rfl, rfl⟩, hK _ _ ⟨_, awake_any, ?_⟩⟩; clear hK K; rintro e w4 ⟨rfl, hb4⟩; refine ⟨_, rfl, ?_⟩; simp only [put_lit, List.set_cons_zero, List.set_cons_succ]
    (with_reducible refine wl_k ?_ ?_); exact rfl; intro K hK; go_simp; refine hK _ ?_; clear hK K
    go_wp2_with fail
    go_ret
    exact ⟨rfl, hb.trans (hb4.mono hb.size)⟩
  | false =>
    have HFB := Lib.hid (HFB0 rfl)
    clear HFB0
    replace hb := hb.trans (hb1.mono hb.size)
    have HN := Lib.hid (New_any (w := w1) (G := fun _ => none) 0 (fun b _ => rfl) (c := c0) (HS.out.below hb))
    clear hb1
    go_upto_region 3 with (fail)
    apply wp_region_lit
    (with_reducible refine wl_k ?_ ?_); exact rfl; intro K hK; go_simp; refine hK _ ?_; clear hK K
    (with_reducible refine wl_ck ?_ ?_); exact rfl; intro K hK; go_simp; refine ⟨_, _, ⟨rfl, rfl⟩, hK _ _ ⟨_, HN.out, ?_⟩⟩; clear hK K; rintro e W2 ⟨p, G1, rfl, hh2, hf2, hold2, hnew2, hb2⟩; refine ⟨_, rfl, ?_⟩; simp only [put_lit, List.set_cons_zero, List.set_cons_succ]
    (with_reducible refine wl_k ?_ ?_); exact rfl; intro K hK; go_simp; refine hK _ ?_; clear hK K
    clear HN
    have HB2 := Lib.hid (hb.trans (hb2.mono hb.size))
    have HG1 : Hid (∀ b, b < w.heap.size → G1 b = none) := Lib.hid (fun b hlt => hold2 b (by have := hb.size; omega))
    have HD0 : Hid (Done W2 G1 0 p (hp0 ns) W2 G1) := Lib.hid (Done.calm hh2 hf2 (Below.refl _ _))
    have hsz2 : w.heap.size ≤ W2.heap.size := HB2.out.size
    clear hh2 hf2 hold2 hnew2 hb2 hb
    go_upto_region 4 with (fail)
    apply wp_region_lit
    (with_reducible refine wl_k ?_ ?_); exact rfl; intro K hK; go_simp; refine hK _ ?_; clear hK K
    (with_reducible refine wl_k ?_ ?_); exact rfl; intro K hK; go_simp; refine hK _ ?_; clear hK K
    go_upto_region 6 with (fail)
    apply wp_region_lit
    (with_reducible refine wl_k ?_ ?_); exact rfl; intro K hK; go_simp; refine hK _ ?_; clear hK K
    go_upto_region 7 with (fail)
    apply wp_region_lit
    (with_reducible refine wl_k ?_ ?_); exact rfl; intro K hK; go_simp; refine hK _ ?_; clear hK K
    have HQL : Hid (l ≤ 60) := Lib.hid (by have := HFB.out.2.1; rw [HL.out] at this; exact this)
    have H0 : Hid (Wf (hp0 ns) ∧ Inv 0 S (hp0 ns) ∧ OkS (hp0 ns).obs) := Lib.hid ⟨wf_zero ns, inv_zero S ns, fun o ho => by cases ho⟩
    go_wp2_with fail
    go_loopw [6, 7] (fun s i wr => ∃ (j : Nat) (Ap : Option Addr) (cp np : Nat) (hp : Hp) (Gj : Gh), j ≤ l ∧ s = .slice Ap np cp ∧ i = .int .i64 (j : Int) ∧ Hid (np = hp.obs.length) ∧ Hid (Done W2 G1 0 p hp wr Gj) ∧ Hid (Wf hp ∧ Inv j S hp ∧ OkS hp.obs) ∧ Hid (OwnL wr 3 1 Ap cp (stRows hp.obs)) ∧ Hid (∀ g, Ap = some ⟨g, 0, none⟩ → W2.heap.size ≤ g ∧ Gj g = none)) (fun _ i _ => l - (intOf i).toNat)
    case atStart => exact ⟨0, none, 0, 0, _, G1, by omega, rfl, rfl, Lib.hid rfl, HD0, H0, Lib.hid (OwnL.nil _ _ _), Lib.hid (fun g e => by cases e)⟩
    case round =>
      clear HD0 H0
      obtain ⟨j, Ap, cp, np, hp, Gj, hj, rfl, rfl, HNP, HD, HI, HO, HA⟩ := hrel
      obtain ⟨wo, rfl⟩ : ∃ wo, wo = wr := ⟨_, rfl⟩
      go_upto_region 8 with (fail)
      by_cases hlt : j < l
      · have hltI : (j : Int) < (l : Int) := by omega
        have hbo : Below w.heap.size w wo := Done.below HB2.out HG1.out HD.out
        have hgo1 : ∀ b, b < w.heap.size → Gj b = none := fun b hlt => (HD.out.old b (by omega)).trans (HG1.out b hlt)
        obtain ⟨b, off, q, row, rv, rx, tr, A', l', c', rfl, hq, hcl, hrows⟩ := HT.out.get hlt (C := fun b => w.heap.size ≤ b) (fun b h1 h2 => by have := h1.2; omega)
        have HR := Lib.hid (hrows wo (Keep.of hbo)).1
        have HCo : ClAt wo (Imm Gj) q row rv rx tr A' l' c' := hcl.mono (fun b hb => hgo1 b hb.2) fun b hb _ => hbo.block b hb.2
        have hqm := List.mem_of_getElem? hq
        have hST := step_any HD.out.heap HD.out.fr HI.out.1 HI.out.2.1 (by have := HQL.out; omega) hS HCo ⟨HFB.out.2.2 q hqm, HOK.out q hqm⟩
        have HC := Lib.hid hST
        obtain ⟨hp', hhp'⟩ : ∃ h', h' = stepP hp q := ⟨_, rfl⟩
        have hI' : Inv (j + 1) S hp' := by rw [hhp']; exact inv_step HI.out.2.1 HI.out.1 (by have := HQL.out; omega) ⟨HFB.out.2.2 q hqm, HOK.out q hqm⟩
        have hW' : Wf hp' := by rw [hhp']; exact wf_step q HI.out.1
        have hU : Up hp.obs hp'.obs := by rw [hhp']; exact up_step q HI.out.1
        rw [← hhp'] at HC
        have HI' := Lib.hid (And.intro hW' (And.intro hI' (hU HI.out.2.2).2))
        have HUP := Lib.hid (hU HI.out.2.2).1
        have hUL := hU.len HI.out.2.2
        clear hbo hgo1 hrows HCo hqm hST hhp' hI' hW' hU hcl
        have hob := HI'.out.2.1.obs
        have hj60 : j + 1 ≤ 61 := by have := HQL.out; omega
        apply wp_region_lit
        (with_reducible refine wl_k ?_ ?_); exact rfl; intro K hK; go_simp; refine hK _ ?_; clear hK K
        (with_reducible refine wl_k ?_ ?_); exact rfl; intro K hK; go_simp; refine hK _ ?_; clear hK K
        (with_reducible refine wl_k ?_ ?_); exact rfl; intro K hK; go_simp; refine hK _ ?_; clear hK K
        (with_reducible refine wl_k ?_ ?_); exact rfl; intro K hK; go_simp; refine hK _ ?_; clear hK K
        go_upto_region 10 with (fail)
        apply wp_region_lit
        (with_reducible refine wl_k ?_ ?_); exact rfl; intro K hK; go_simp; refine hK _ ?_; clear hK K
        (with_reducible refine wl_k ?_ ?_); exact rfl; intro K hK; go_simp; refine hK _ ?_; clear hK K
        (with_reducible refine wl_k ?_ ?_); exact rfl; intro K hK; go_simp; refine hK _ ?_; clear hK K
        (with_reducible refine wl_k ?_ ?_); exact rfl; intro K hK; go_simp; refine hK _ ?_; clear hK K
        ((with_reducible apply wl_rowG); exact rfl; exact rfl; exact HR.out)
        (with_reducible refine wl_ck ?_ ?_); exact rfl; intro K hK; go_simp; refine ⟨_, _, ⟨rfl, rfl⟩, hK _ _ ⟨_, HC.out, ?_⟩⟩; clear hK K; rintro e w3 ⟨rfl, G3, d3⟩; refine ⟨_, rfl, ?_⟩; simp only [put_lit, List.set_cons_zero, List.set_cons_succ]
        clear HC HR
        have HD3 := Lib.hid (HD.out.trans d3)
        have HOP : Hid (OwnL w3 3 1 Ap cp (stRows hp.obs)) := Lib.hid (HO.out.keep d3.keep (fun g e hm => by obtain ⟨r, e2, -⟩ := hm; rw [(HA.out g e).2] at e2; cases e2))
        have HC := Lib.hid (Objects_any d3.heap (by omega) (fun o ho => Nat.le_trans (HI'.out.2.1.fld o ho) (by omega)))
        have HF3 := Lib.hid d3.fr
        clear d3 HO HD HA
        go_upto_region 11 with (fail)
        apply wp_region_lit
        (with_reducible refine wl_k ?_ ?_); exact rfl; intro K hK; go_simp; refine hK _ ?_; clear hK K
        (with_reducible refine wl_ck ?_ ?_); exact rfl; intro K hK; go_simp; refine ⟨_, _, ⟨rfl, rfl⟩, hK _ _ ⟨_, HC.out, ?_⟩⟩; clear hK K; rintro e w4 ⟨qn, cn, rowsn, rfl, hown, hrl, hqn, hfin, hb4⟩; refine ⟨_, rfl, ?_⟩; simp only [put_lit, List.set_cons_zero, List.set_cons_succ]
        (with_reducible refine wl_k ?_ ?_); exact rfl; intro K hK; go_simp; refine hK _ ?_; clear hK K
        clear HC
        obtain ⟨n', hn'⟩ : ∃ n, n = hp'.obs.length := ⟨_, rfl⟩
        rw [← hn']
        have HNN := Lib.hid hn'
        have hle : np ≤ n' := by have := HNP.out; omega
        have hleI : ¬ (n' : Int) < (np : Int) := by omega
        have HD4 := Lib.hid (HD3.out.quiet hb4)
        replace HOP := Lib.hid (HOP.out.old hb4)
        have HON := Lib.hid hown
        have HST : Hid (∀ (i : Nat) (o : Ob), hp'.obs[i]? = some o → ∀ W', Below w4.heap.size w4 W' → OneAt W' 3 ⟨qn, i * 8 + 4, none⟩ (.int .i64 o.state)) := Lib.hid (fun i o hio W' hW => by
          have hil := (List.getElem?_eq_some_iff.1 hio).1
          have hri : rowsn[i]? = some (rowsn[i]'(by omega)) := List.getElem?_eq_getElem _
          obtain ⟨tr, fA, fc, frows, e1, e2, -⟩ := hfin i o _ hio hri
          have h8 := (cell8_at e2.size o.state o.count o.weak fA o.fields.length fc).2.1
          rw [← e1] at h8
          exact one_of u3 rfl ((hown.old hW).cell hri h8))
        have HG3 : Hid (∀ b, w4.heap.size ≤ b → G3 b = none) := Lib.hid (fun b hb => HF3.out b (by have := hb4.size; omega))
        clear hn' hown hrl hqn hfin hb4 HD3 HF3
        go_upto_region 12 with (fail)
        apply wp_region_lit
        (with_reducible refine wl_k ?_ ?_); exact rfl; intro K hK; go_simp; refine hK _ ?_; clear hK K
        (with_reducible refine wl_k ?_ ?_); exact rfl; intro K hK; go_simp; refine hK _ ?_; clear hK K
        (with_reducible refine wl_k ?_ ?_); exact rfl; intro K hK; go_simp; refine hK _ ?_; clear hK K
        (with_reducible refine wl_k ?_ ?_); exact rfl; intro K hK; go_simp; refine hK _ ?_; clear hK K
        (with_reducible refine wl_k ?_ ?_); exact rfl; intro K hK; go_simp; refine hK _ ?_; clear hK K
        go_upto_region 14 with (fail)
        apply wp_region_lit
        (with_reducible refine wl_k ?_ ?_); exact rfl; intro K hK; go_simp; refine hK _ ?_; clear hK K
        go_wp2_with fail
        go_loopw [9] (fun i wr => ∃ k : Nat, k ≤ n' ∧ i = .int .i64 (k : Int) ∧ Hid (Below w4.heap.size w4 wr)) (fun i _ => n' - (intOf i).toNat)
        case atStart => exact ⟨0, by omega, rfl, Lib.hid (Below.refl _ _)⟩
        case round =>
          obtain ⟨k, hk, rfl, HZ⟩ := hrel
          go_upto_region 15 with (fail)
          by_cases hlk : k < n'
          · have hlkI : (k : Int) < (n' : Int) := by omega
            have hk' : k < hp'.obs.length := by have := HNN.out; omega
            have hok := List.getElem?_eq_getElem hk'
            obtain ⟨o, ho⟩ : ∃ o, o = hp'.obs[k] := ⟨_, rfl⟩
            rw [← ho] at hok
            obtain ⟨s, hs⟩ : ∃ s, s = o.state := ⟨_, rfl⟩
            have h13 := HI'.out.2.2 o (List.mem_of_getElem? hok)
            rw [← hs] at h13
            have HLD := HST.out k o hok wr HZ.out
            rw [← hs] at HLD
            replace HLD := Lib.hid HLD
            have hs1 : ¬ s < 1 := by omega
            have hs3 : ¬ s > 3 := by omega
            have HHS := Lib.hid hs
            have HOKK := Lib.hid hok
            clear ho hok hs h13
            apply wp_region_lit
            (with_reducible refine wl_k ?_ ?_); exact rfl; intro K hK; go_simp; refine hK _ ?_; clear hK K
            (with_reducible refine wl_k ?_ ?_); exact rfl; intro K hK; go_simp; refine hK _ ?_; clear hK K
            (with_reducible refine wl_k ?_ ?_); exact rfl; intro K hK; go_simp; refine hK _ ?_; clear hK K
            (with_reducible refine wl_k ?_ ?_); exact rfl; intro K hK; go_simp; refine hK _ ?_; clear hK K
            go_upto_region 17 with (fail)
            apply wp_region_lit
            (with_reducible refine wl_k ?_ ?_); exact rfl; intro K hK; go_simp; refine hK _ ?_; clear hK K
            (with_reducible refine wl_k ?_ ?_); exact rfl; intro K hK; go_simp; refine hK _ ?_; clear hK K
            (with_reducible refine wl_k ?_ ?_); exact rfl; intro K hK; go_simp; refine hK _ ?_; clear hK K
            (with_reducible refine wl_k ?_ ?_); exact rfl; intro K hK; go_simp; refine hK _ ?_; clear hK K
            ((with_reducible apply wl_oneG); exact rfl; exact rfl; exact HLD.out)
            (with_reducible refine wl_k ?_ ?_); exact rfl; intro K hK; go_simp; refine hK _ ?_; clear hK K
            go_upto_region 18 with (fail)
            go_cut [69] (fun s69 wx => s69 = .bool false ∧ Hid (Below w4.heap.size w4 wx))
            case first =>
              by_cases hkp : k < np
              · have hkpI : (k : Int) < (np : Int) := by omega
                obtain ⟨g, cur, rfl, -, -, -⟩ := HOP.out.addr (i := k) (by rw [stRows_len]; have := HNP.out; omega)
                have hko : k < hp.obs.length := by have := HNP.out; omega
                have hoo := List.getElem?_eq_getElem hko
                obtain ⟨o1, ho1⟩ : ∃ o, o = hp.obs[k] := ⟨_, rfl⟩
                rw [← ho1] at hoo
                obtain ⟨s1, hss1⟩ : ∃ s, s = o1.state := ⟨_, rfl⟩
                have hcell : OneAt wr 3 ⟨g, k, none⟩ (.int .i64 s1) := one_of u3 rfl (by
                  have := (HOP.out.old HZ.out).cell (stRows_get hoo) (j := 0) (x := .int .i64 o1.state) rfl
                  rw [Nat.mul_one, Nat.add_zero] at this
                  rw [hss1]; exact this)
                have HLP := Lib.hid hcell
                have hge : ¬ s < s1 := by
                  obtain ⟨o2, q1, q2⟩ := HUP.out k o1 hoo
                  rw [HOKK.out] at q1; cases q1
                  have := HHS.out
                  omega
                clear hko hoo ho1 hss1 hcell
                apply wp_region_lit
                (with_reducible refine wl_k ?_ ?_); exact rfl; intro K hK; go_simp; refine hK _ ?_; clear hK K
                (with_reducible refine wl_k ?_ ?_); exact rfl; intro K hK; go_simp; refine hK _ ?_; clear hK K
                (with_reducible refine wl_k ?_ ?_); exact rfl; intro K hK; go_simp; refine hK _ ?_; clear hK K
                (with_reducible refine wl_k ?_ ?_); exact rfl; intro K hK; go_simp; refine hK _ ?_; clear hK K
                (with_reducible refine wl_k ?_ ?_); exact rfl; intro K hK; go_simp; refine hK _ ?_; clear hK K
                (with_reducible refine wl_k ?_ ?_); exact rfl; intro K hK; go_simp; refine hK _ ?_; clear hK K
                (with_reducible refine wl_k ?_ ?_); exact rfl; intro K hK; go_simp; refine hK _ ?_; clear hK K
                (with_reducible refine wl_k ?_ ?_); exact rfl; intro K hK; go_simp; refine hK _ ?_; clear hK K
                (with_reducible refine wl_k ?_ ?_); exact rfl; intro K hK; go_simp; refine hK _ ?_; clear hK K
                (with_reducible refine wl_k ?_ ?_); exact rfl; intro K hK; go_simp; refine hK _ ?_; clear hK K
                (with_reducible refine wl_k ?_ ?_); exact rfl; intro K hK; go_simp; refine hK _ ?_; clear hK K
                (with_reducible refine wl_k ?_ ?_); exact rfl; intro K hK; go_simp; refine hK _ ?_; clear hK K
                (with_reducible refine wl_k ?_ ?_); exact rfl; intro K hK; go_simp; refine hK _ ?_; clear hK K
                (with_reducible refine wl_k ?_ ?_); exact rfl; intro K hK; go_simp; refine hK _ ?_; clear hK K
                (with_reducible refine wl_k ?_ ?_); exact rfl; intro K hK; go_simp; refine hK _ ?_; clear hK K
                (with_reducible refine wl_k ?_ ?_); exact rfl; intro K hK; go_simp; refine hK _ ?_; clear hK K
                ((with_reducible apply wl_oneG); exact rfl; exact rfl; exact HLP.out)
                (with_reducible refine wl_k ?_ ?_); exact rfl; intro K hK; go_simp; refine hK _ ?_; clear hK K
                (with_reducible refine wl_k ?_ ?_); exact rfl; intro K hK; go_simp; refine hK _ ?_; clear hK K
                (with_reducible refine wl_k ?_ ?_); exact rfl; intro K hK; go_simp; refine hK _ ?_; clear hK K
                go_wp2_with fail
                go_meet
                exact ⟨rfl, HZ⟩
              · have hkpI : ¬ (k : Int) < (np : Int) := by omega
                apply wp_region_lit
                (with_reducible refine wl_k ?_ ?_); exact rfl; intro K hK; go_simp; refine hK _ ?_; clear hK K
                (with_reducible refine wl_k ?_ ?_); exact rfl; intro K hK; go_simp; refine hK _ ?_; clear hK K
                (with_reducible refine wl_k ?_ ?_); exact rfl; intro K hK; go_simp; refine hK _ ?_; clear hK K
                (with_reducible refine wl_k ?_ ?_); exact rfl; intro K hK; go_simp; refine hK _ ?_; clear hK K
                (with_reducible refine wl_k ?_ ?_); exact rfl; intro K hK; go_simp; refine hK _ ?_; clear hK K
                (with_reducible refine wl_k ?_ ?_); exact rfl; intro K hK; go_simp; refine hK _ ?_; clear hK K
                (with_reducible refine wl_k ?_ ?_); exact rfl; intro K hK; go_simp; refine hK _ ?_; clear hK K
                (with_reducible refine wl_k ?_ ?_); exact rfl; intro K hK; go_simp; refine hK _ ?_; clear hK K
                (with_reducible refine wl_k ?_ ?_); exact rfl; intro K hK; go_simp; refine hK _ ?_; clear hK K
                (with_reducible refine wl_k ?_ ?_); exact rfl; intro K hK; go_simp; refine hK _ ?_; clear hK K
                (with_reducible refine wl_k ?_ ?_); exact rfl; intro K hK; go_simp; refine hK _ ?_; clear hK K
                (with_reducible refine wl_k ?_ ?_); exact rfl; intro K hK; go_simp; refine hK _ ?_; clear hK K
                (first | ((with_reducible refine wl_skipU ?_ ?_ ?_); exact rfl; exact rfl) | ((with_reducible refine wl_skip ?_ ?_); exact rfl; simp only [put_lit, List.set_cons_zero, List.set_cons_succ]))
                (first | ((with_reducible refine wl_skipU ?_ ?_ ?_); exact rfl; exact rfl) | ((with_reducible refine wl_skip ?_ ?_); exact rfl; simp only [put_lit, List.set_cons_zero, List.set_cons_succ]))
                (first | ((with_reducible refine wl_skipU ?_ ?_ ?_); exact rfl; exact rfl) | ((with_reducible refine wl_skip ?_ ?_); exact rfl; simp only [put_lit, List.set_cons_zero, List.set_cons_succ]))
                (first | ((with_reducible refine wl_skipU ?_ ?_ ?_); exact rfl; exact rfl) | ((with_reducible refine wl_skip ?_ ?_); exact rfl; simp only [put_lit, List.set_cons_zero, List.set_cons_succ]))
                (first | ((with_reducible refine wl_skipU ?_ ?_ ?_); exact rfl; exact rfl) | ((with_reducible refine wl_skip ?_ ?_); exact rfl; simp only [put_lit, List.set_cons_zero, List.set_cons_succ]))
                (first | ((with_reducible refine wl_skipU ?_ ?_ ?_); exact rfl; exact rfl) | ((with_reducible refine wl_skip ?_ ?_); exact rfl; simp only [put_lit, List.set_cons_zero, List.set_cons_succ]))
                (with_reducible refine wl_k ?_ ?_); exact rfl; intro K hK; go_simp; refine hK _ ?_; clear hK K
                (with_reducible refine wl_k ?_ ?_); exact rfl; intro K hK; go_simp; refine hK _ ?_; clear hK K
                go_wp2_with fail
                go_meet
                exact ⟨rfl, HZ⟩
            case rest =>
              obtain ⟨rfl, HZ2⟩ := hcut
              go_wp2_with fail
              go_roundw
              case rel => exact ⟨k + 1, by omega, by go_num, HZ2⟩
              case measure => simp [intOf]; omega
          · have hlkI : ¬ (k : Int) < (n' : Int) := by omega
            have HO0 : Hid (OwnL wr 3 1 none 0 (stRows (hp'.obs.take 0))) := Lib.hid (OwnL.nil _ _ _)
            apply wp_region_lit
            (with_reducible refine wl_k ?_ ?_); exact rfl; intro K hK; go_simp; refine hK _ ?_; clear hK K
            (with_reducible refine wl_k ?_ ?_); exact rfl; intro K hK; go_simp; refine hK _ ?_; clear hK K
            (with_reducible refine wl_k ?_ ?_); exact rfl; intro K hK; go_simp; refine hK _ ?_; clear hK K
            (with_reducible refine wl_k ?_ ?_); exact rfl; intro K hK; go_simp; refine hK _ ?_; clear hK K
            go_upto_region 20 with (fail)
            apply wp_region_lit
            (with_reducible refine wl_k ?_ ?_); exact rfl; intro K hK; go_simp; refine hK _ ?_; clear hK K
            go_upto_region 21 with (fail)
            apply wp_region_lit
            (with_reducible refine wl_k ?_ ?_); exact rfl; intro K hK; go_simp; refine hK _ ?_; clear hK K
            go_wp2_with fail
            clear HOP HUP hlkI hlk hk
            obtain ⟨wm, rfl⟩ : ∃ wm, wm = wr := ⟨_, rfl⟩
            go_loopw [6, 11] (fun s i wr => ∃ (k : Nat) (Ak : Option Addr) (ck : Nat), k ≤ n' ∧ s = .slice Ak k ck ∧ i = .int .i64 (k : Int) ∧ Hid (OwnL wr 3 1 Ak ck (stRows (hp'.obs.take k))) ∧ Hid (∀ g, Ak = some ⟨g, 0, none⟩ → w4.heap.size ≤ g) ∧ Hid (Below w4.heap.size w4 wr)) (fun _ i _ => n' - (intOf i).toNat)
            case atStart => exact ⟨0, none, 0, by omega, rfl, rfl, HO0, Lib.hid (fun g e => by cases e), HZ⟩
            case round =>
              clear HO0 HZ
              obtain ⟨k, Ak, ck, hk, rfl, rfl, HO, HA, HZ⟩ := hrel
              go_upto_region 22 with (fail)
              by_cases hlk : k < n'
              · have hlkI : (k : Int) < (n' : Int) := by omega
                have hk' : k < hp'.obs.length := by have := HNN.out; omega
                have hok := List.getElem?_eq_getElem hk'
                obtain ⟨o, ho⟩ : ∃ o, o = hp'.obs[k] := ⟨_, rfl⟩
                rw [← ho] at hok
                obtain ⟨s, hs⟩ : ∃ s, s = o.state := ⟨_, rfl⟩
                have HLD := HST.out k o hok wr HZ.out
                rw [← hs] at HLD
                replace HLD := Lib.hid HLD
                have HRR : Hid (stRows (hp'.obs.take k) ++ [#[.int .i64 s]] = stRows (hp'.obs.take (k + 1))) := Lib.hid (by rw [List.take_add_one, hok, hs]; simp [stRows])
                have HRL : Hid ((stRows (hp'.obs.take k)).length = k) := Lib.hid (by rw [stRows_len, List.length_take]; omega)
                clear ho hok hs
                apply wp_region_lit
                (with_reducible refine wl_k ?_ ?_); exact rfl; intro K hK; go_simp; refine hK _ ?_; clear hK K
                (with_reducible refine wl_k ?_ ?_); exact rfl; intro K hK; go_simp; refine hK _ ?_; clear hK K
                (with_reducible refine wl_k ?_ ?_); exact rfl; intro K hK; go_simp; refine hK _ ?_; clear hK K
                (with_reducible refine wl_k ?_ ?_); exact rfl; intro K hK; go_simp; refine hK _ ?_; clear hK K
                go_upto_region 24 with (fail)
                apply wp_region_lit
                (with_reducible refine wl_k ?_ ?_); exact rfl; intro K hK; go_simp; refine hK _ ?_; clear hK K
                (with_reducible refine wl_k ?_ ?_); exact rfl; intro K hK; go_simp; refine hK _ ?_; clear hK K
                (with_reducible refine wl_k ?_ ?_); exact rfl; intro K hK; go_simp; refine hK _ ?_; clear hK K
                (with_reducible refine wl_k ?_ ?_); exact rfl; intro K hK; go_simp; refine hK _ ?_; clear hK K
                (with_reducible refine wl_k ?_ ?_); exact rfl; intro K hK; go_simp; refine hK _ ?_; clear hK K
                ((with_reducible apply wl_oneG); exact rfl; exact rfl; exact HLD.out)
                refine wl_newv (fun q => .slice (some ⟨q, 0, none⟩) 1 1) rfl (ex_bs28 _ rfl rfl) ?_
                intro W8 q8 hbn hlq8 hq8
                simp only [put_lit, List.set_cons_zero, List.set_cons_succ]
                replace HO := Lib.hid (HO.out.old hbn)
                have hz8 := HZ.out.trans (hbn.mono HZ.out.size)
                clear hbn
                refine wl_pushL elt28 rfl _ _ rfl (show _ = Value.slice Ak (stRows (hp'.obs.take k)).length ck by rw [HRL.out]; rfl) rfl HO.out hq8 rfl (by simp [Value.oneCell']) (by have := HRL.out; omega) (by have := HRL.out; unfold maxLen; omega) ?_
                rw [HRL.out]
                intro A9 c9 W9 hown hk9 hA9
                have hz9 := Below.keep hz8 hk9 (fun b e => HA.out b e)
                have HA9 : Hid (∀ g, A9 = some ⟨g, 0, none⟩ → w4.heap.size ≤ g) := Lib.hid (fun g e => by
                  rcases hA9 with e2 | ⟨g', e2, e3⟩
                  · exact HA.out g (by rw [← e2]; exact e)
                  · rw [e] at e2; cases e2; have := hz8.size; omega)
                rw [HRR.out] at hown
                have HO9 := Lib.hid hown
                have HZ9 := Lib.hid hz9
                clear hown hk9 hA9 HO HA hz8 hz9 hq8
                simp only [put_lit, List.set_cons_zero, List.set_cons_succ]
                (with_reducible refine wl_k ?_ ?_); exact rfl; intro K hK; go_simp; refine hK _ ?_; clear hK K
                go_wp2_with fail
                go_roundw
                case rel => exact ⟨k + 1, A9, c9, by omega, rfl, by go_num, HO9, HA9, HZ9⟩
                case measure => simp [intOf]; omega
              · have hlkI : ¬ (k : Int) < (n' : Int) := by omega
                have hkn : k = n' := by omega
                subst hkn
                have HDz := Lib.hid (HD4.out.quiet HZ.out)
                have HOz : Hid (OwnL wr 3 1 Ak ck (stRows hp'.obs)) := Lib.hid (by have := HO.out; rwa [List.take_of_length_le (by have := HNN.out; omega)] at this)
                have HAz : Hid (∀ g, Ak = some ⟨g, 0, none⟩ → W2.heap.size ≤ g ∧ G3 g = none) := Lib.hid (fun g e => by
                  have h1 := HA.out g e
                  have h2 := HD4.out.keep.size
                  exact ⟨by omega, HG3.out g h1⟩)
                clear HO HA HZ HD4
                apply wp_region_lit
                (with_reducible refine wl_k ?_ ?_); exact rfl; intro K hK; go_simp; refine hK _ ?_; clear hK K
                (with_reducible refine wl_k ?_ ?_); exact rfl; intro K hK; go_simp; refine hK _ ?_; clear hK K
                (with_reducible refine wl_k ?_ ?_); exact rfl; intro K hK; go_simp; refine hK _ ?_; clear hK K
                (with_reducible refine wl_k ?_ ?_); exact rfl; intro K hK; go_simp; refine hK _ ?_; clear hK K
                go_wp2_with fail
                go_roundw
                case rel => exact ⟨j + 1, Ak, ck, k, hp', G3, by omega, rfl, by go_num, HNN, HDz, HI', HOz, HAz⟩
                case measure => simp [intOf]; omega
      · have hltI : ¬ (j : Int) < (l : Int) := by omega
        have hbo : Below w.heap.size w wo := Done.below HB2.out HG1.out HD.out
        apply wp_region_lit
        (with_reducible refine wl_k ?_ ?_); exact rfl; intro K hK; go_simp; refine hK _ ?_; clear hK K
        (with_reducible refine wl_k ?_ ?_); exact rfl; intro K hK; go_simp; refine hK _ ?_; clear hK K
        (with_reducible refine wl_k ?_ ?_); exact rfl; intro K hK; go_simp; refine hK _ ?_; clear hK K
        (with_reducible refine wl_k ?_ ?_); exact rfl; intro K hK; go_simp; refine hK _ ?_; clear hK K
        go_upto_region 25 with (fail)
        apply wp_region_lit
        (with_reducible refine wl_ck ?_ ?_); exact rfl; intro K hK; go_simp; refine ⟨_, _, ⟨rfl, rfl⟩, hK _ _ ⟨_, awake_any, ?_⟩⟩; clear hK K; rintro e w5 ⟨rfl, hb5⟩; refine ⟨_, rfl, ?_⟩; simp only [put_lit, List.set_cons_zero, List.set_cons_succ]
        (with_reducible refine wl_k ?_ ?_); exact rfl; intro K hK; go_simp; refine hK _ ?_; clear hK K
        go_wp2_with fail
        go_ret
        exact ⟨rfl, hbo.trans (hb5.mono hbo.size)⟩
end Go.Proofs.Ytpamocglecangaa
