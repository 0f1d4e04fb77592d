/- The document's dead. The document's count. The document's place, array, changed. The document's Copy, Weak, Load. -/
import Derived.Test.YtpamocglecangaaPD5
import Derived.Test.YtpamocglecangaaPD3
import Derived.Test.YtpamocglecangaaPD2
import Derived.Test.YtpamocglecangaaPD4
set_option maxHeartbeats 16000000
set_option maxRecDepth 100000
namespace Go.Proofs.Ytpamocglecangaa
open Go.RowKit Go.Proofs.Ytpamocglecangaa.Nm
set_option linter.unusedSimpArgs false
def dead1 (h : Hp) (v : Va) : Bool := if v.kind = 7 then (match h.obs[v.num.toNat]? with | some o => o.state == 3 | none => false) else if v.kind = 8 then (match h.bus[v.num.toNat]? with | some b => b.count == 0 | none => false) else false
theorem deadV_1 (h : Hp) (v : Va) : deadV h v = (dead1 h v || (hasK v.kind && deadVs h v.parts)) := by
 rw [deadV_eq]
 unfold dead1
 by_cases h7 : v.kind = 7
 ·rw [if_pos h7, if_pos h7]
  have : hasK v.kind = false := by rw [h7]; rfl
  rw [this]
  cases h.obs[v.num.toNat]? with
  | none => rfl
  | some o => simp only [Bool.false_and, Bool.or_false]; rfl
 ·rw [if_neg h7, if_neg h7]
  by_cases h8 : v.kind = 8
  ·rw [if_pos h8, if_pos h8]
   have : hasK v.kind = false := by rw [h8]; rfl
   rw [this]
   cases h.bus[v.num.toNat]? with
   | none => rfl
   | some o => simp only [Bool.false_and, Bool.or_false]; rfl
  ·rw [if_neg h8, if_neg h8]
   cases hasK v.kind <;> rfl
theorem ddead_any (G : Gh) (k : Nat) (p : Nat) (h : Hp) (nr : Nat) : ∀ v : Va, DDeadC G k p h nr v := Va.ind fun v ih w D row dA dc oA oc bA bc lA lc rA rc hv hh ho => by
 obtain ⟨tr, A2, l2, c2, A3, l3, c3, hr⟩ := hv.row
 have HR := Zi hr
 have HI := Zi ih
 have HH := Zi hh
 have HO := Zi ho
 have HVV := Zi hv
 have hcm3 := hr.vs.cap
 have hmx3 := hr.vs.max
 unfold maxLen at hmx3
 have HL3 := Zi hr.vs.len
 have hh0 := hh.blk
 clear hv hr ih ho hh
 have hh := hh0
 clear hh0
 have hb := Below.refl w.heap.size w
 go_enter Try.func86, Try.ntmps86
 go_upto_region 0 with fail
 apply Zl
 have lthhq := heap_lt hh; (with_reducible refine wl_boxV rfl ?_); intro W q hbn hlq hq; replace hh := below_look hbn hh; replace hb := hb.trans (hbn.mono hb.size); clear hbn; simp only [Zq]
 refine Zm ?_
 have hp := hq
 clear hq
 obtain ⟨b1, hb1⟩ : ∃ b, b = dead1 h v := ⟨_, rfl⟩
 have HB1 := Zi hb1
 clear hb1
 have HP := Zi hp
 have HHD := Zi hh
 go_upto_region 1 with fail
 go_cut [37] (fun s wx => s = .bool b1 /\ Hid (Below W.heap.size W wx))
 case first =>
  by_cases h7 : v.kind = 7
  ·have e7 : (v.kind == 7) = true := by simp [h7]
   have e8 : (v.kind == 8) = false := by simp [h7]
   have h1 : 0 <= v.num /\ v.num < (h.obs.length : Int) := by
    have := HO.out
    rw [ofV_eq, if_pos (.inl h7)] at this
    exact of_decide_eq_true this
   obtain ⟨n, hn⟩ : ∃ n : Nat, v.num = (n : Int) := ⟨v.num.toNat, by omega⟩
   have hnl : n < h.obs.length := by omega
   have hnlI : (n : Int) < (h.obs.length : Int) := by omega
   have ho := List.getElem?_eq_getElem hnl
   obtain ⟨o, hoe⟩ : ∃ o, o = h.obs[n] := ⟨_, rfl⟩
   rw [<- hoe] at ho
   obtain ⟨g, rows, rfl, hR⟩ := (HH.out.old hb).obs.rows ho
   obtain ⟨tr0, fA, fc, hL, -, -⟩ := hR.loads ho
   have HL := Zi hL
   obtain ⟨s3, hs3⟩ : ∃ b : Bool, b = (o.state == 3) := ⟨_, rfl⟩
   have e3 := hs3.symm
   obtain rfl : b1 = s3 := by rw [HB1.out, hs3]; unfold dead1; rw [if_pos h7, hn]; simp [ho]
   have HN := Zi hn
   clear h7 h1 hn hoe hR hL HI HO ho hs3 HB1
   cases b1 with
   | true =>
    refine wp_region_belowAll mixed (by kernel_rfl) ?_
    refine Zt ?_
    refine Zv rfl (fun w' hw' => vk (below_look hw' (by assumption)) (by assumption)) ?_
    iterate 5 refine Zt ?_
    refine Zv rfl (fun w' hw' => dh1 (below_look hw' (by assumption))) ?_
    refine Zt ?_
    refine Zv rfl (fun w' hw' => vnN (below_look hw' (by assumption)) (by assumption) (by assumption)) ?_
    iterate 2 refine Zt ?_
    refine Zv rfl (fun w' hw' => (HL.out w' hw').s) ?_
    iterate 3 refine Zt ?_
    iterate 15 ((with_reducible refine wq_skip ?_ ?_); exact rfl; simp only [Zy])
    refine Zt ?_
    intro w7 hb7
    go_wp2_with fail
    go_meet
    exact ⟨rfl, Zi hb7⟩
   | false =>
    refine wp_region_belowAll mixed (by kernel_rfl) ?_
    refine Zt ?_
    refine Zv rfl (fun w' hw' => vk (below_look hw' (by assumption)) (by assumption)) ?_
    iterate 5 refine Zt ?_
    refine Zv rfl (fun w' hw' => dh1 (below_look hw' (by assumption))) ?_
    refine Zt ?_
    refine Zv rfl (fun w' hw' => vnN (below_look hw' (by assumption)) (by assumption) (by assumption)) ?_
    iterate 2 refine Zt ?_
    refine Zv rfl (fun w' hw' => (HL.out w' hw').s) ?_
    iterate 4 refine Zt ?_
    refine Zv rfl (fun w' hw' => vk (below_look hw' (by assumption)) (by assumption)) ?_
    iterate 2 refine Zt ?_
    iterate 10 ((with_reducible refine wq_skip ?_ ?_); exact rfl; simp only [Zy])
    iterate 2 refine Zt ?_
    intro w7 hb7
    go_wp2_with fail
    go_meet
    exact ⟨rfl, Zi hb7⟩
  ·have e7 : (v.kind == 7) = false := by simp [h7]
   by_cases h8 : v.kind = 8
   ·have e8 : (v.kind == 8) = true := by simp [h8]
    have h1 : 0 <= v.num /\ v.num < (h.bus.length : Int) := by
     have := HO.out
     rw [ofV_eq, if_neg (by omega), if_pos h8] at this
     exact of_decide_eq_true this
    obtain ⟨n, hn⟩ : ∃ n : Nat, v.num = (n : Int) := ⟨v.num.toNat, by omega⟩
    have hnl : n < h.bus.length := by omega
    have hnlI : (n : Int) < (h.bus.length : Int) := by omega
    have ho := List.getElem?_eq_getElem hnl
    obtain ⟨o, hoe⟩ : ∃ o, o = h.bus[n] := ⟨_, rfl⟩
    rw [<- hoe] at ho
    obtain ⟨g, rows, rfl, hR⟩ := (HH.out.old hb).bus.rows ho
    obtain ⟨fA, fc, hL, -⟩ := hR.loads ho
    have HL := Zi hL
    obtain rfl : b1 = (o.count == 0) := by rw [HB1.out]; unfold dead1; rw [if_neg h7, if_pos h8, hn]; simp [ho]
    have HN := Zi hn
    clear h7 h8 h1 hn hoe hR hL HI HO ho HB1
    refine wp_region_belowAll mixed (by kernel_rfl) ?_
    refine Zt ?_
    refine Zv rfl (fun w' hw' => vk (below_look hw' (by assumption)) (by assumption)) ?_
    iterate 2 refine Zt ?_
    iterate 10 ((with_reducible refine wq_skip ?_ ?_); exact rfl; simp only [Zy])
    iterate 3 refine Zt ?_
    refine Zv rfl (fun w' hw' => vk (below_look hw' (by assumption)) (by assumption)) ?_
    iterate 5 refine Zt ?_
    refine Zv rfl (fun w' hw' => dh2 (below_look hw' (by assumption))) ?_
    refine Zt ?_
    refine Zv rfl (fun w' hw' => vnN (below_look hw' (by assumption)) (by assumption) (by assumption)) ?_
    iterate 2 refine Zt ?_
    refine Zv rfl (fun w' hw' => (HL.out w' hw').c) ?_
    iterate 3 refine Zt ?_
    intro w7 hb7
    go_wp2_with fail
    go_meet
    exact ⟨rfl, Zi hb7⟩
   ·have e8 : (v.kind == 8) = false := by simp [h8]
    obtain rfl : b1 = false := by rw [HB1.out]; unfold dead1; rw [if_neg h7, if_neg h8]
    clear h7 h8 HI HO HB1
    refine wp_region_belowAll mixed (by kernel_rfl) ?_
    refine Zt ?_
    refine Zv rfl (fun w' hw' => vk (below_look hw' (by assumption)) (by assumption)) ?_
    iterate 2 refine Zt ?_
    iterate 10 ((with_reducible refine wq_skip ?_ ?_); exact rfl; simp only [Zy])
    iterate 3 refine Zt ?_
    refine Zv rfl (fun w' hw' => vk (below_look hw' (by assumption)) (by assumption)) ?_
    iterate 2 refine Zt ?_
    iterate 10 ((with_reducible refine wq_skip ?_ ?_); exact rfl; simp only [Zy])
    iterate 2 refine Zt ?_
    intro w7 hb7
    go_wp2_with fail
    go_meet
    exact ⟨rfl, Zi hb7⟩
 case rest =>
  obtain ⟨rfl, HZ⟩ := hcut
  clear hp hh
  have hzc := HZ.out
  cases b1 with
  | true =>
   have HF : Hid (deadV h v = true) := Zi (by rw [deadV_1, <- HB1.out]; rfl)
   go_upto_region 2 with fail
   apply Zl
   refine Zm ?_
   go_wp2_with fail
   go_ret
   exact ⟨by rw [HF.out]; rfl, hb.trans (hzc.mono hb.size)⟩
  | false =>
   obtain ⟨bk, hbk⟩ : ∃ b, b = hasK v.kind := ⟨_, rfl⟩
   have HK := Zi hbk
   have HF0 : Hid (deadV h v = (bk && deadVs h (v.parts.drop 0))) := Zi (by rw [deadV_1, <- HB1.out, <- hbk]; rfl)
   have HO2 : Hid (hasK v.kind = true -> ∀ u, u ∈ v.parts -> ofV h.obs.length h.bus.length u = true) := Zi fun hk => by
    have := HO.out
    rw [ofV_eq, if_neg (by rintro (h | h) <;> (rw [h] at hk; cases hk)), if_neg (by rintro h; rw [h] at hk; cases hk), if_pos hk] at this
    exact ofVs_iff.1 this
   clear hbk HB1 HO
   go_upto_region 3 with fail
   apply Zl
   refine Zm ?_
   go_wp2_with fail
   go_loopw [5] (fun i wr => ∃ j : Nat, j <= l3 /\ i = .int .i64 (j : Int) /\ Hid (deadV h v = (bk && deadVs h (v.parts.drop j))) /\ Below W.heap.size W wr) (fun i _ => l3 - (intOf i).toNat)
   case atStart => exact ⟨0, by omega, rfl, HF0, hzc⟩
   case round =>
    clear HZ hzc HF0
    obtain ⟨j, hj, rfl, HF, hz⟩ := hrel
    have hp := below_look hz HP.out
    have hh := below_look hz HHD.out
    have hbr := hb.trans (hz.mono hb.size)
    have hch := has_v (HVV.out.old hbr)
    rw [<- HK.out] at hch
    have HCH := Zi hch
    clear hch
    cases bk with
    | false =>
     have HF2 : Hid (deadV h v = false) := Zi (by rw [HF.out]; rfl)
     clear HF
     go_upto_region 4 with fail
     apply Zl
     refine Zw rfl (vrow (by assumption) (by assumption)) ?_
     refine Zn HCH.out ?_; rintro e w7 ⟨rfl, hb7⟩; refine ⟨_, rfl, ?_⟩; simp only [Zq]
     replace hp := below_look hb7 hp; replace hh := below_look hb7 hh; replace hbr := hbr.trans (hb7.mono hbr.size); clear hb7
     refine Zm ?_
     iterate 5 ((first | ((with_reducible refine wl_skipU ?_ ?_ ?_); exact rfl; exact rfl) | ((with_reducible refine wl_skip ?_ ?_); exact rfl; simp only [Zq])))
     refine Zm ?_
     clear HCH
     go_upto_region 8 with fail
     apply Zl
     refine Zm ?_
     go_wp2_with fail
     go_ret
     exact ⟨by rw [HF2.out]; rfl, hbr⟩
    | true =>
     by_cases hlt : j < l3
     ·have hltI : (j : Int) < (l3 : Int) := by omega
      obtain ⟨b2, off2, u, rowu, rfl, -, hu, hua, hrow⟩ := (HR.out.vs.old hbr).getB hlt
      have HST := Zi (deadVs_step (h := h) hu)
      have hum := List.mem_of_getElem? hu
      have HIU := Zi (HI.out u hum)
      have HOU := Zi (HO2.out HK.out.symm u hum)
      have HUA := Zi hua
      have HRU := Zi hrow
      clear hu hua hrow hum
      have hzz := Below.refl wr.heap.size wr
      go_upto_region 4 with fail
      apply Zl
      refine Zw rfl (vrow (by assumption) (by assumption)) ?_
      refine Zn HCH.out ?_; rintro e w7 ⟨rfl, hb7⟩; refine ⟨_, rfl, ?_⟩; simp only [Zq]
      replace hp := below_look hb7 hp; replace hh := below_look hb7 hh; replace hzz := hzz.trans (hb7.mono hzz.size); clear hb7
      iterate 3 refine Zm ?_
      refine Zo rfl (vl (by assumption) (by assumption)) ?_
      iterate 3 refine Zm ?_
      clear HCH
      obtain ⟨bb, hbb⟩ : ∃ b, b = deadV h u := ⟨_, rfl⟩
      have hc := HIU.out w7 _ _ _ _ _ _ _ _ _ _ _ _ (HUA.out.old hzz) (HH.out.old (hbr.trans (hzz.mono hbr.size))) HOU.out
      rw [<- hbb] at hc HST
      have HC := Zi hc
      have HRV := Zi (HRU.out w7 hzz)
      clear hc hbb
      go_upto_region 6 with fail
      apply Zl
      iterate 2 refine Zm ?_
      refine Zo rfl (vl (by assumption) (by assumption)) ?_
      iterate 2 refine Zm ?_
      refine Zw rfl (HRV.out) ?_
      refine Zn HC.out ?_; rintro e w8 ⟨rfl, hb8⟩; refine ⟨_, rfl, ?_⟩; simp only [Zq]
      replace hp := below_look hb8 hp; replace hh := below_look hb8 hh; replace hzz := hzz.trans (hb8.mono hzz.size); clear hb8
      clear HC
      replace hz := hz.trans (hzz.mono hz.size)
      replace hbr := hbr.trans (hzz.mono hbr.size)
      clear hzz
      cases bb with
      | true =>
       have HF2 : Hid (deadV h v = true) := Zi (by rw [HF.out, HST.out]; rfl)
       clear HF HST
       go_upto_region 7 with fail
       apply Zl
       refine Zm ?_
       go_wp2_with fail
       go_ret
       exact ⟨by rw [HF2.out]; rfl, hbr⟩
      | false =>
       have HF2 : Hid (deadV h v = (true && deadVs h (v.parts.drop (j + 1)))) := Zi (by rw [HF.out, HST.out]; rfl)
       clear HF HST
       go_wp2_with fail
       go_roundw
       case rel => exact ⟨j + 1, by omega, by go_num, HF2, hz⟩
       case measure => simp [intOf]; omega
     ·have hltI : ¬ (j : Int) < (l3 : Int) := by omega
      have HF2 : Hid (deadV h v = false) := Zi (by rw [HF.out, List.drop_of_length_le (by rw [HL3.out]; omega), deadVs]; rfl)
      clear HF
      go_upto_region 4 with fail
      apply Zl
      refine Zw rfl (vrow (by assumption) (by assumption)) ?_
      refine Zn HCH.out ?_; rintro e w7 ⟨rfl, hb7⟩; refine ⟨_, rfl, ?_⟩; simp only [Zq]
      replace hp := below_look hb7 hp; replace hh := below_look hb7 hh; replace hbr := hbr.trans (hb7.mono hbr.size); clear hb7
      iterate 3 refine Zm ?_
      refine Zo rfl (vl (by assumption) (by assumption)) ?_
      iterate 3 refine Zm ?_
      clear HCH
      go_upto_region 8 with fail
      apply Zl
      refine Zm ?_
      go_wp2_with fail
      go_ret
      exact ⟨by rw [HF2.out]; rfl, hbr⟩
section
variable {w w' : World} {G : Gh} {k p nr : Nat} {h : Hp} {dA : Option Addr} {dc : Nat} {oA : Option Addr} {oc : Nat} {bA : Option Addr} {bc : Nat} {lA : Option Addr} {lc : Nat} {rA : Option Addr} {rc : Nat}
theorem DAt.obsC (hh : DAt w G k p h nr dA dc oA oc bA bc lA lc rA rc) {obs : List Ob} (hl : obs.length = h.obs.length) (hs : ∀ b, b < w.heap.size -> (∃ r, G b = some (k, r) /\ r ≠ .arr /\ ∀ i, r ≠ .fld i) -> w'.heap[b]? = w.heap[b]?) (h2 : ∀ b, b < w.heap.size -> G b = none -> w'.heap[b]? = w.heap[b]?) (ho : ObsAt w' G k obs oA oc) : DAt w' G k p { h with obs := obs } nr dA dc oA oc bA bc lA lc rA rc where
 blk := by rw [hs p (heap_lt hh.blk) ⟨_, hh.rp, by simp, by simp⟩]; show _ = some (Obj.cells (cellD dA h.dei.length dc oA obs.length oc bA h.bus.length bc lA h.lev.length lc rA nr rc) 92 (0, 0)); rw [hl]; exact hh.blk
 rp := hh.rp
 obs := ho
 bus := hh.bus.same (fun b hb e => hs b hb (by rcases e with e | ⟨i, e⟩ <;> exact ⟨_, e, by simp, by simp⟩)) h2
 lev := hh.lev.same (fun b hb e => hs b hb ⟨_, e, by simp, by simp⟩) h2
 dei := hh.dei.same h2
 ord := by
  obtain ⟨rows, ho, hl, hr⟩ := hh.ord
  exact ⟨rows, ho.same fun g e hg => hs g hg ⟨_, hr g e, by simp, by simp⟩, hl, hr⟩
theorem DAt.busC (hh : DAt w G k p h nr dA dc oA oc bA bc lA lc rA rc) {bus : List Bu} (hl : bus.length = h.bus.length) (hs : ∀ b, b < w.heap.size -> (∃ r, G b = some (k, r) /\ r ≠ .bar /\ ∀ i, r ≠ .elm i) -> w'.heap[b]? = w.heap[b]?) (h2 : ∀ b, b < w.heap.size -> G b = none -> w'.heap[b]? = w.heap[b]?) (ho : BusAt w' G k bus bA bc) : DAt w' G k p { h with bus := bus } nr dA dc oA oc bA bc lA lc rA rc where
 blk := by rw [hs p (heap_lt hh.blk) ⟨_, hh.rp, by simp, by simp⟩]; show _ = some (Obj.cells (cellD dA h.dei.length dc oA h.obs.length oc bA bus.length bc lA h.lev.length lc rA nr rc) 92 (0, 0)); rw [hl]; exact hh.blk
 rp := hh.rp
 obs := hh.obs.same (fun b hb e => hs b hb (by rcases e with e | ⟨i, e⟩ <;> exact ⟨_, e, by simp, by simp⟩)) h2
 bus := ho
 lev := hh.lev.same (fun b hb e => hs b hb ⟨_, e, by simp, by simp⟩) h2
 dei := hh.dei.same h2
 ord := by
  obtain ⟨rows, ho, hl, hr⟩ := hh.ord
  exact ⟨rows, ho.same fun g e hg => hs g hg ⟨_, hr g e, by simp, by simp⟩, hl, hr⟩
theorem DAt.setO (hh : DAt w G k p h nr dA dc oA oc bA bc lA lc rA rc) {g i j : Nat} {rows : List (Array Value)} (hA : oA = some ⟨g, 0, none⟩) (hR : ObsR w G k h.obs g oc rows) {o o' : Ob} (hi : h.obs[i]? = some o) {x : Int} (ht : o'.t = o.t) (hf : o'.fields = o.fields)
  (hj : (j = 4 /\ o'.state = x /\ o'.count = o.count /\ o'.weak = o.weak) ∨ (j = 5 /\ o'.state = o.state /\ o'.count = x /\ o'.weak = o.weak) ∨ (j = 6 /\ o'.state = o.state /\ o'.count = o.count /\ o'.weak = x)) :
  DAt (w.setCell ⟨g, i * 8 + j, none⟩ (.int .i64 x)) G k p { h with obs := h.obs.set i o' } nr dA dc oA oc bA bc lA lc rA rc := by
 have hs1 := (Keep.cellOne w g (i * 8 + j) (.int .i64 x)).block
 refine hh.obsC (by simp) (fun b hb e => hs1 b hb fun e2 => ?_) (fun b hb e => hs1 b hb fun e2 => by rw [e2, hR.role] at e; cases e) (by rw [hA]; exact hR.num hi ht hf hj)
 obtain ⟨r, e3, e4, -⟩ := e
 rw [e2, hR.role] at e3; cases e3; exact e4 rfl
theorem DAt.setB (hh : DAt w G k p h nr dA dc oA oc bA bc lA lc rA rc) {g i : Nat} {rows : List (Array Value)} (hA : bA = some ⟨g, 0, none⟩) (hR : BusR w G k h.bus g bc rows) {b b' : Bu} (hi : h.bus[i]? = some b) {x : Int} (hf : b'.elems = b.elems) (hc : b'.count = x) :
  DAt (w.setCell ⟨g, i * 2, none⟩ (.int .i64 x)) G k p { h with bus := h.bus.set i b' } nr dA dc oA oc bA bc lA lc rA rc := by
 have hs1 := (Keep.cellOne w g (i * 2) (.int .i64 x)).block
 refine hh.busC (by simp) (fun b hb e => hs1 b hb fun e2 => ?_) (fun b hb e => hs1 b hb fun e2 => by rw [e2, hR.role] at e; cases e) (by rw [hA]; exact hR.num hi hf hc)
 obtain ⟨r, e3, e4, -⟩ := e
 rw [e2, hR.role] at e3; cases e3; exact e4 rfl
theorem DAt.stO {g i : Nat} (hh : DAt w G k p h nr dA dc (some ⟨g, 0, none⟩) oc bA bc lA lc rA rc) {o : Ob} (hi : h.obs[i]? = some o) (j : Nat) (hj : j < 8) : (w.cell? ⟨g, i * 8 + j, none⟩).isSome = true /\ w.frozen? ⟨g, i * 8 + j, none⟩ = false /\ G g = some (k, .arr) /\
  ∀ (x : Int) (o' : Ob), o'.t = o.t -> o'.fields = o.fields -> ((j = 4 /\ o'.state = x /\ o'.count = o.count /\ o'.weak = o.weak) ∨ (j = 5 /\ o'.state = o.state /\ o'.count = x /\ o'.weak = o.weak) ∨ (j = 6 /\ o'.state = o.state /\ o'.count = o.count /\ o'.weak = x)) -> DAt (w.setCell ⟨g, i * 8 + j, none⟩ (.int .i64 x)) G k p { h with obs := h.obs.set i o' } nr dA dc (some ⟨g, 0, none⟩) oc bA bc lA lc rA rc := by
 obtain ⟨g', rows, e, hR⟩ := hh.obs.rows hi
 cases e
 obtain ⟨row, tr, fA, fc, hr, -⟩ := hR.get hi
 obtain ⟨h1, h2⟩ := hR.own.lies hr hj
 exact ⟨h1, h2, hR.role, fun x o' a b c => hh.setO rfl hR hi a b c⟩
theorem DAt.stB {g i : Nat} (hh : DAt w G k p h nr dA dc oA oc (some ⟨g, 0, none⟩) bc lA lc rA rc) {b : Bu} (hi : h.bus[i]? = some b) : (w.cell? ⟨g, i * 2, none⟩).isSome = true /\ w.frozen? ⟨g, i * 2, none⟩ = false /\ G g = some (k, .bar) /\
  ∀ (x : Int) (b' : Bu), b'.elems = b.elems -> b'.count = x -> DAt (w.setCell ⟨g, i * 2, none⟩ (.int .i64 x)) G k p { h with bus := h.bus.set i b' } nr dA dc oA oc (some ⟨g, 0, none⟩) bc lA lc rA rc := by
 obtain ⟨g', rows, e, hR⟩ := hh.bus.rows hi
 cases e
 obtain ⟨row, eA, ec, hr, -⟩ := hR.get hi
 obtain ⟨h1, h2⟩ := hR.own.lies hr (j := 0) (by omega)
 exact ⟨h1, h2, hR.role, fun x b' a c => hh.setB rfl hR hi a c⟩
end
def DCountC (G : Gh) (k p nr : Nat) (x : Int) (v : Va) : Prop := ∀ (h : Hp) (w : World) (row : Array Value) (dA : Option Addr) (dc : Nat) (oA : Option Addr) (oc : Nat) (bA : Option Addr) (bc : Nat) (lA : Option Addr) (lc : Nat) (rA : Option Addr) (rc : Nat), VAt w (Imm G) v row -> DAt w G k p h nr dA dc oA oc bA bc lA lc rA rc -> Fr w G -> ofV h.obs.length h.bus.length v = true ->
 Calls Try.prog 87 #[.pointer (some ⟨p, 0, none⟩), .agg row, .int .i64 x] w fun e w' => e = .returned (.tuple #[]) /\ DAt w' G k p (cntV x v h) nr dA dc oA oc bA bc lA lc rA rc /\ Keep (Cnt G k) w w'
theorem dcount_any (G : Gh) (k p nr : Nat) (x : Int) (hx : (Lit.int .i64 x).wf = true) : ∀ v : Va, DCountC G k p nr x v := Va.ind fun v ih h w row dA dc oA oc bA bc lA lc rA rc hv hh hf ho => by
 obtain ⟨tr, A2, l2, c2, A3, l3, c3, hr⟩ := hv.row
 have hcm3 := hr.vs.cap
 have hmx3 := hr.vs.max
 unfold maxLen at hmx3
 have HL3 := Zi hr.vs.len
 have HR := Zi hr
 have HI := Zi ih
 have HH := Zi hh
 have HO := Zi ho
 have HF := Zi hf
 have HVV := Zi hv
 have hh0 := hh.blk
 clear hv hr ih ho hh hf
 have hh := hh0
 clear hh0
 have hb := Below.refl w.heap.size w
 go_enter Try.func87, Try.ntmps87
 go_upto_region 0 with fail
 apply Zl
 have lthhq := heap_lt hh; (with_reducible refine wl_boxV rfl ?_); intro W q hbn hlq hq; replace hh := below_look hbn hh; replace hb := hb.trans (hbn.mono hb.size); clear hbn; simp only [Zq]
 have hp := hq
 clear hq
 go_upto_region 1 with fail
 apply Zl
 refine Zm ?_
 refine Zo rfl (vk (by assumption) (by assumption)) ?_
 by_cases h7 : v.kind = 7
 ·have e7 : (v.kind == 7) = true := by simp [h7]
  have h1 : 0 <= v.num /\ v.num < (h.obs.length : Int) := by
   have := HO.out
   rw [ofV_eq, if_pos (by omega)] at this
   exact of_decide_eq_true this
  obtain ⟨n, hn⟩ : ∃ n : Nat, v.num = (n : Int) := ⟨v.num.toNat, by omega⟩
  have hnl : n < h.obs.length := by omega
  have hnlI : (n : Int) < (h.obs.length : Int) := by omega
  have ho := List.getElem?_eq_getElem hnl
  obtain ⟨o, hoe⟩ : ∃ o, o = h.obs[n] := ⟨_, rfl⟩
  rw [<- hoe] at ho
  obtain ⟨g, rows, rfl, hR⟩ := (HH.out.old hb).obs.rows ho
  obtain ⟨tr0, fA, fc, hL, -, -⟩ := hR.loads ho
  have HL := Zi hL
  have HOO := Zi ho
  have HD : Hid (cntV x v h = { h with obs := h.obs.set n (addC x o) }) := Zi (by rw [cntV_eq, if_pos h7, hn]; show (_ : Hp) = _; rw [Int.toNat_natCast, modify_eq _ ho])
  have HN := Zi hn
  clear h1 hn hoe hR hL HI HO ho
  go_upto_region 3 with fail
  refine wp_region_below 19 mixed (by kernel_rfl) ?_; simp only [List.take_succ_cons, List.take_zero, List.drop_succ_cons, List.drop_zero]
  iterate 3 refine Zt ?_
  refine Zv rfl (fun w' hw' => dh1 (below_look hw' (by assumption))) ?_
  refine Zt ?_
  refine Zv rfl (fun w' hw' => vnN (below_look hw' (by assumption)) (by assumption) (by assumption)) ?_
  iterate 3 refine Zt ?_
  refine Zv rfl (fun w' hw' => dh1 (below_look hw' (by assumption))) ?_
  refine Zt ?_
  refine Zv rfl (fun w' hw' => vnN (below_look hw' (by assumption)) (by assumption) (by assumption)) ?_
  iterate 2 refine Zt ?_
  refine Zv rfl (fun w' hw' => (HL.out w' hw').c) ?_
  iterate 4 refine Zt ?_
  intro w7 hb7
  have hb0 := hb.trans (hb7.mono hb.size)
  have HH7 := Zi (HH.out.old hb0)
  have HP7 := Zi (below_look hb7 hp)
  have hqs := heap_lt hp
  clear hp hh HL hb7
  obtain ⟨hs1, hs2, hrl, hset⟩ := HH7.out.stO HOO.out 5 (by omega)
  have HS := Zi hset
  clear hset
  refine wl_storeC rfl 3 _ _ rfl g _ _ rfl rfl info3 rfl hs1 hs2 ?_
  rw [put_noneA]
  have hda := HS.out _ (addC x o) rfl rfl (.inr (.inl ⟨rfl, rfl, rfl, rfl⟩))
  have hkp : ∀ j y, Keep (Cnt G k) w (w7.setCell ⟨g, j, none⟩ y) := fun j y => (Keep.of hb0).trans (C' := fun b => b = g) (fun b hb => .inl (by rw [show b = g from hb]; exact .inl hrl)) (Keep.cellOne w7 g j y)
  rw [<- HD.out] at hda
  have hpg : q ≠ g := fun e => by have := HF.out q (by omega); rw [e, hrl] at this; cases this
  have hpz : ∀ j y, (w7.setCell ⟨g, j, none⟩ y).heap[q]? = some (.cells row 35 (0, 0)) := fun j y => ((Keep.cellOne w7 g j y).block q (heap_lt HP7.out) hpg).trans HP7.out
  have HDA := Zi hda
  have HKP := Zi hkp
  have HPZ := Zi hpz
  clear hda hkp hpz hs1 hs2 HS HH7 HP7
  have HCH : Hid (∀ (wr : World), VAt wr (Imm G) v row -> Calls Try.prog 106 #[.agg row] wr fun e w' => e = .returned (.bool false) /\ Below wr.heap.size wr w') := Zi fun wr hv => by have := has_v hv; rwa [show hasK v.kind = false by rw [h7]; rfl] at this
  go_upto_region 8 with fail
  apply Zl
  refine Zm ?_
  go_wp2_with fail
  go_loopw [6] (fun i wr => i = .int .i64 0 /\ Hid (DAt wr G k p (cntV x v h) nr dA dc (some ⟨g, 0, none⟩) oc bA bc lA lc rA rc) /\ Hid (Keep (Cnt G k) w wr) /\ wr.heap[q]? = some (.cells row 35 (0, 0))) (fun _ _ => 0)
  case atStart => exact ⟨rfl, HDA, Zi (HKP.out _ _), HPZ.out _ _⟩
  case round =>
   clear HDA HKP HPZ
   obtain ⟨rfl, HDA, HKP, hp⟩ := hrel
   have HC := Zi (HCH.out wr (HVV.out.keep HKP.out fun b hb => Cnt.imm hb))
   go_upto_region 9 with fail
   apply Zl
   refine Zw rfl (vrow (by assumption) (by assumption)) ?_
   refine Zn HC.out ?_; rintro e w8 ⟨rfl, hb8⟩; refine ⟨_, rfl, ?_⟩; simp only [Zq]
   have hb8' := hb8
   replace hp := below_look hb8 hp; clear hb8
   refine Zm ?_
   iterate 5 ((first | ((with_reducible refine wl_skipU ?_ ?_ ?_); exact rfl; exact rfl) | ((with_reducible refine wl_skip ?_ ?_); exact rfl; simp only [Zq])))
   refine Zm ?_
   go_wp2_with fail
   go_end0
   exact ⟨rfl, HDA.out.old hb8', HKP.out.trans (C' := Cnt G k) (fun b h => .inl h) (Keep.of hb8')⟩
 ·have e7 : (v.kind == 7) = false := by simp [h7]
  by_cases h11 : v.kind = 11
  ·have e11 : (v.kind == 11) = true := by simp [h11]
   have h1 : 0 <= v.num /\ v.num < (h.obs.length : Int) := by
    have := HO.out
    rw [ofV_eq, if_pos (by omega)] at this
    exact of_decide_eq_true this
   obtain ⟨n, hn⟩ : ∃ n : Nat, v.num = (n : Int) := ⟨v.num.toNat, by omega⟩
   have hnl : n < h.obs.length := by omega
   have hnlI : (n : Int) < (h.obs.length : Int) := by omega
   have ho := List.getElem?_eq_getElem hnl
   obtain ⟨o, hoe⟩ : ∃ o, o = h.obs[n] := ⟨_, rfl⟩
   rw [<- hoe] at ho
   obtain ⟨g, rows, rfl, hR⟩ := (HH.out.old hb).obs.rows ho
   obtain ⟨tr0, fA, fc, hL, -, -⟩ := hR.loads ho
   have HL := Zi hL
   have HOO := Zi ho
   have HD : Hid (cntV x v h = { h with obs := h.obs.set n (addW x o) }) := Zi (by rw [cntV_eq, if_neg h7, if_pos h11, hn]; show (_ : Hp) = _; rw [Int.toNat_natCast, modify_eq _ ho])
   have HN := Zi hn
   clear h1 hn hoe hR hL HI HO ho
   go_upto_region 5 with fail
   refine wp_region_below 19 mixed (by kernel_rfl) ?_; simp only [List.take_succ_cons, List.take_zero, List.drop_succ_cons, List.drop_zero]
   iterate 3 refine Zt ?_
   refine Zv rfl (fun w' hw' => dh1 (below_look hw' (by assumption))) ?_
   refine Zt ?_
   refine Zv rfl (fun w' hw' => vnN (below_look hw' (by assumption)) (by assumption) (by assumption)) ?_
   iterate 3 refine Zt ?_
   refine Zv rfl (fun w' hw' => dh1 (below_look hw' (by assumption))) ?_
   refine Zt ?_
   refine Zv rfl (fun w' hw' => vnN (below_look hw' (by assumption)) (by assumption) (by assumption)) ?_
   iterate 2 refine Zt ?_
   refine Zv rfl (fun w' hw' => (HL.out w' hw').k) ?_
   iterate 4 refine Zt ?_
   intro w7 hb7
   have hb0 := hb.trans (hb7.mono hb.size)
   have HH7 := Zi (HH.out.old hb0)
   have HP7 := Zi (below_look hb7 hp)
   have hqs := heap_lt hp
   clear hp hh HL hb7
   obtain ⟨hs1, hs2, hrl, hset⟩ := HH7.out.stO HOO.out 6 (by omega)
   have HS := Zi hset
   clear hset
   refine wl_storeC rfl 3 _ _ rfl g _ _ rfl rfl info3 rfl hs1 hs2 ?_
   rw [put_noneA]
   have hda := HS.out _ (addW x o) rfl rfl (.inr (.inr ⟨rfl, rfl, rfl, rfl⟩))
   have hkp : ∀ j y, Keep (Cnt G k) w (w7.setCell ⟨g, j, none⟩ y) := fun j y => (Keep.of hb0).trans (C' := fun b => b = g) (fun b hb => .inl (by rw [show b = g from hb]; exact .inl hrl)) (Keep.cellOne w7 g j y)
   rw [<- HD.out] at hda
   have hpg : q ≠ g := fun e => by have := HF.out q (by omega); rw [e, hrl] at this; cases this
   have hpz : ∀ j y, (w7.setCell ⟨g, j, none⟩ y).heap[q]? = some (.cells row 35 (0, 0)) := fun j y => ((Keep.cellOne w7 g j y).block q (heap_lt HP7.out) hpg).trans HP7.out
   have HDA := Zi hda
   have HKP := Zi hkp
   have HPZ := Zi hpz
   clear hda hkp hpz hs1 hs2 HS HH7 HP7
   have HCH : Hid (∀ (wr : World), VAt wr (Imm G) v row -> Calls Try.prog 106 #[.agg row] wr fun e w' => e = .returned (.bool false) /\ Below wr.heap.size wr w') := Zi fun wr hv => by have := has_v hv; rwa [show hasK v.kind = false by rw [h11]; rfl] at this
   go_upto_region 8 with fail
   apply Zl
   refine Zm ?_
   go_wp2_with fail
   go_loopw [6] (fun i wr => i = .int .i64 0 /\ Hid (DAt wr G k p (cntV x v h) nr dA dc (some ⟨g, 0, none⟩) oc bA bc lA lc rA rc) /\ Hid (Keep (Cnt G k) w wr) /\ wr.heap[q]? = some (.cells row 35 (0, 0))) (fun _ _ => 0)
   case atStart => exact ⟨rfl, HDA, Zi (HKP.out _ _), HPZ.out _ _⟩
   case round =>
    clear HDA HKP HPZ
    obtain ⟨rfl, HDA, HKP, hp⟩ := hrel
    have HC := Zi (HCH.out wr (HVV.out.keep HKP.out fun b hb => Cnt.imm hb))
    go_upto_region 9 with fail
    apply Zl
    refine Zw rfl (vrow (by assumption) (by assumption)) ?_
    refine Zn HC.out ?_; rintro e w8 ⟨rfl, hb8⟩; refine ⟨_, rfl, ?_⟩; simp only [Zq]
    have hb8' := hb8
    replace hp := below_look hb8 hp; clear hb8
    refine Zm ?_
    iterate 5 ((first | ((with_reducible refine wl_skipU ?_ ?_ ?_); exact rfl; exact rfl) | ((with_reducible refine wl_skip ?_ ?_); exact rfl; simp only [Zq])))
    refine Zm ?_
    go_wp2_with fail
    go_end0
    exact ⟨rfl, HDA.out.old hb8', HKP.out.trans (C' := Cnt G k) (fun b h => .inl h) (Keep.of hb8')⟩
  ·have e11 : (v.kind == 11) = false := by simp [h11]
   by_cases h8 : v.kind = 8
   ·have e8 : (v.kind == 8) = true := by simp [h8]
    have h1 : 0 <= v.num /\ v.num < (h.bus.length : Int) := by
     have := HO.out
     rw [ofV_eq, if_neg (by omega), if_pos h8] at this
     exact of_decide_eq_true this
    obtain ⟨n, hn⟩ : ∃ n : Nat, v.num = (n : Int) := ⟨v.num.toNat, by omega⟩
    have hnl : n < h.bus.length := by omega
    have hnlI : (n : Int) < (h.bus.length : Int) := by omega
    have ho := List.getElem?_eq_getElem hnl
    obtain ⟨o, hoe⟩ : ∃ o, o = h.bus[n] := ⟨_, rfl⟩
    rw [<- hoe] at ho
    obtain ⟨g, rows, rfl, hR⟩ := (HH.out.old hb).bus.rows ho
    obtain ⟨fA, fc, hL, -⟩ := hR.loads ho
    have HL := Zi hL
    have HOO := Zi ho
    have HD : Hid (cntV x v h = { h with bus := h.bus.set n (addB x o) }) := Zi (by rw [cntV_eq, if_neg h7, if_neg h11, if_pos h8, hn]; show (_ : Hp) = _; rw [Int.toNat_natCast, modify_eq _ ho])
    have HN := Zi hn
    clear h1 hn hoe hR hL HI HO ho
    go_upto_region 7 with fail
    refine wp_region_below 19 mixed (by kernel_rfl) ?_; simp only [List.take_succ_cons, List.take_zero, List.drop_succ_cons, List.drop_zero]
    iterate 3 refine Zt ?_
    refine Zv rfl (fun w' hw' => dh2 (below_look hw' (by assumption))) ?_
    refine Zt ?_
    refine Zv rfl (fun w' hw' => vnN (below_look hw' (by assumption)) (by assumption) (by assumption)) ?_
    iterate 3 refine Zt ?_
    refine Zv rfl (fun w' hw' => dh2 (below_look hw' (by assumption))) ?_
    refine Zt ?_
    refine Zv rfl (fun w' hw' => vnN (below_look hw' (by assumption)) (by assumption) (by assumption)) ?_
    iterate 2 refine Zt ?_
    refine Zv rfl (fun w' hw' => (HL.out w' hw').c) ?_
    iterate 4 refine Zt ?_
    intro w7 hb7
    have hb0 := hb.trans (hb7.mono hb.size)
    have HH7 := Zi (HH.out.old hb0)
    have HP7 := Zi (below_look hb7 hp)
    have hqs := heap_lt hp
    clear hp hh HL hb7
    obtain ⟨hs1, hs2, hrl, hset⟩ := HH7.out.stB HOO.out
    have HS := Zi hset
    clear hset
    refine wl_storeC rfl 3 _ _ rfl g _ _ rfl rfl info3 rfl hs1 hs2 ?_
    rw [put_noneA]
    have hda := HS.out _ (addB x o) rfl rfl
    have hkp : ∀ j y, Keep (Cnt G k) w (w7.setCell ⟨g, j, none⟩ y) := fun j y => (Keep.of hb0).trans (C' := fun b => b = g) (fun b hb => .inl (by rw [show b = g from hb]; exact .inr hrl)) (Keep.cellOne w7 g j y)
    rw [<- HD.out] at hda
    have hpg : q ≠ g := fun e => by have := HF.out q (by omega); rw [e, hrl] at this; cases this
    have hpz : ∀ j y, (w7.setCell ⟨g, j, none⟩ y).heap[q]? = some (.cells row 35 (0, 0)) := fun j y => ((Keep.cellOne w7 g j y).block q (heap_lt HP7.out) hpg).trans HP7.out
    have HDA := Zi hda
    have HKP := Zi hkp
    have HPZ := Zi hpz
    clear hda hkp hpz hs1 hs2 HS HH7 HP7
    have HCH : Hid (∀ (wr : World), VAt wr (Imm G) v row -> Calls Try.prog 106 #[.agg row] wr fun e w' => e = .returned (.bool false) /\ Below wr.heap.size wr w') := Zi fun wr hv => by have := has_v hv; rwa [show hasK v.kind = false by rw [h8]; rfl] at this
    go_upto_region 8 with fail
    apply Zl
    refine Zm ?_
    go_wp2_with fail
    go_loopw [6] (fun i wr => i = .int .i64 0 /\ Hid (DAt wr G k p (cntV x v h) nr dA dc oA oc (some ⟨g, 0, none⟩) bc lA lc rA rc) /\ Hid (Keep (Cnt G k) w wr) /\ wr.heap[q]? = some (.cells row 35 (0, 0))) (fun _ _ => 0)
    case atStart => exact ⟨rfl, HDA, Zi (HKP.out _ _), HPZ.out _ _⟩
    case round =>
     clear HDA HKP HPZ
     obtain ⟨rfl, HDA, HKP, hp⟩ := hrel
     have HC := Zi (HCH.out wr (HVV.out.keep HKP.out fun b hb => Cnt.imm hb))
     go_upto_region 9 with fail
     apply Zl
     refine Zw rfl (vrow (by assumption) (by assumption)) ?_
     refine Zn HC.out ?_; rintro e w8 ⟨rfl, hb8⟩; refine ⟨_, rfl, ?_⟩; simp only [Zq]
     have hb8' := hb8
     replace hp := below_look hb8 hp; clear hb8
     refine Zm ?_
     iterate 5 ((first | ((with_reducible refine wl_skipU ?_ ?_ ?_); exact rfl; exact rfl) | ((with_reducible refine wl_skip ?_ ?_); exact rfl; simp only [Zq])))
     refine Zm ?_
     go_wp2_with fail
     go_end0
     exact ⟨rfl, HDA.out.old hb8', HKP.out.trans (C' := Cnt G k) (fun b h => .inl h) (Keep.of hb8')⟩
   ·have e8 : (v.kind == 8) = false := by simp [h8]
    have HE : Hid (cntV x v h = if hasK v.kind then cntVs x v.parts h else h) := Zi (by rw [cntV_eq]; simp [h7, h8, h11])
    have HO2 : Hid (hasK v.kind = true -> ∀ u, u ∈ v.parts -> ofV h.obs.length h.bus.length u = true) := Zi fun hk => by
     have := HO.out
     rw [ofV_eq, if_neg (by omega), if_neg h8, if_pos hk] at this
     exact ofVs_iff.1 this
    obtain ⟨bk, hbk⟩ : ∃ b, b = hasK v.kind := ⟨_, rfl⟩
    have HK := Zi hbk
    have HCH : Hid (∀ (wr : World), VAt wr (Imm G) v row -> Calls Try.prog 106 #[.agg row] wr fun e w' => e = .returned (.bool bk) /\ Below wr.heap.size wr w') := Zi fun wr hv => by rw [hbk]; exact has_v hv
    have H0 : Hid (DAt W G k p (cntVs x (v.parts.take 0) h) nr dA dc oA oc bA bc lA lc rA rc) := Zi (by rw [List.take_zero, cntVs]; exact HH.out.old hb)
    have HK0 := Zi (Keep.of (C := Cnt G k) hb)
    have hql := heap_lt hp
    have HPW := Zi hp
    have HQG : Hid (¬ Cnt G k q) := Zi (Cnt.imm (HF.out q (by omega)))
    clear hbk h7 h8 h11 HO hh hp
    go_upto_region 8 with fail
    apply Zl
    refine Zm ?_
    clear hql hlq
    go_wp2_with fail
    go_loopw [6] (fun i wr => ∃ j : Nat, j <= l3 /\ i = .int .i64 (j : Int) /\ Hid (DAt wr G k p (cntVs x (v.parts.take j) h) nr dA dc oA oc bA bc lA lc rA rc) /\ Hid (Keep (Cnt G k) w wr) /\ wr.heap[q]? = some (.cells row 35 (0, 0)) /\ Hid (bk = false -> j = 0)) (fun i _ => l3 - (intOf i).toNat)
    case atStart => exact ⟨0, by omega, rfl, H0, HK0, HPW.out, Zi fun _ => rfl⟩
    case round =>
     clear H0 HK0 HPW
     obtain ⟨j, hj, rfl, HA, HKe, hp, HJ⟩ := hrel
     have hsz := HKe.out.size
     have HC1 := Zi (HCH.out wr (HVV.out.keep HKe.out fun b hb => Cnt.imm hb))
     cases bk with
     | false =>
      have HF2 : Hid (cntVs x (v.parts.take j) h = cntV x v h) := Zi (by rw [HJ.out rfl, HE.out, <- HK.out]; simp [cntVs])
      go_upto_region 9 with fail
      apply Zl
      refine Zw rfl (vrow (by assumption) (by assumption)) ?_
      refine Zn HC1.out ?_; rintro e w8 ⟨rfl, hb8⟩; refine ⟨_, rfl, ?_⟩; simp only [Zq]
      have hb8' := hb8
      replace hp := below_look hb8 hp; clear hb8
      refine Zm ?_
      iterate 5 ((first | ((with_reducible refine wl_skipU ?_ ?_ ?_); exact rfl; exact rfl) | ((with_reducible refine wl_skip ?_ ?_); exact rfl; simp only [Zq])))
      refine Zm ?_
      go_wp2_with fail
      go_end0
      exact ⟨rfl, by rw [<- HF2.out]; exact HA.out.old hb8', HKe.out.trans (C' := Cnt G k) (fun b h => .inl h) (Keep.of hb8')⟩
     | true =>
      by_cases hlt : j < l3
      ·have hltI : (j : Int) < (l3 : Int) := by omega
       obtain ⟨b2, off2, u, rowu, rfl, -, hu, hua, hrow⟩ := (HR.out.vs.keep HKe.out (fun b hb => Cnt.imm hb)).getB hlt
       have HST := Zi (cntVs_take (by_ := x) hu h)
       have hum := List.mem_of_getElem? hu
       have HIU := Zi (HI.out u hum)
       have HOU := Zi (HO2.out HK.out.symm u hum)
       have HUA := Zi hua
       have HRU := Zi hrow
       have hzz := Below.refl wr.heap.size wr
       clear hu hua hrow hum
       go_upto_region 9 with fail
       apply Zl
       refine Zw rfl (vrow (by assumption) (by assumption)) ?_
       refine Zn HC1.out ?_; rintro e w7 ⟨rfl, hb7⟩; refine ⟨_, rfl, ?_⟩; simp only [Zq]
       replace hp := below_look hb7 hp; replace hzz := hzz.trans (hb7.mono hzz.size); clear hb7
       iterate 3 refine Zm ?_
       refine Zo rfl (vl (by assumption) (by assumption)) ?_
       iterate 3 refine Zm ?_
       have hz2 := hzz.size
       obtain ⟨e1, e2, -, -⟩ := cntVs_same x (v.parts.take j) h
       have HC := Zi (HIU.out (cntVs x (v.parts.take j) h) w7 _ _ _ _ _ _ _ _ _ _ _ (HUA.out.old hzz) (HA.out.old hzz) (HF.out.on (by omega)) (by rw [e1, e2]; exact HOU.out))
       have HRV := Zi (HRU.out w7 hzz)
       clear e1 e2
       go_upto_region 11 with fail
       apply Zl
       iterate 2 refine Zm ?_
       refine Zo rfl (vl (by assumption) (by assumption)) ?_
       iterate 2 refine Zm ?_
       refine Zw rfl (HRV.out) ?_
       refine Zm ?_
       refine Zn HC.out ?_; rintro e w8 ⟨rfl, ha8, hk8⟩; refine ⟨_, rfl, ?_⟩; simp only [Zq]
       have HA8 := Zi ha8
       have HK8 := Zi ((HKe.out.trans (C' := Cnt G k) (fun b h => .inl h) (Keep.of hzz)).trans (C' := Cnt G k) (fun b h => .inl h) hk8)
       replace hp := (hk8.block q (heap_lt hp) HQG.out).trans hp
       clear ha8 hk8
       rw [<- HST.out] at HA8
       clear HC HRV HST HA HKe hzz hz2 HJ
       go_wp2_with fail
       go_roundw
       case rel => exact ⟨j + 1, by omega, by go_num, HA8, HK8, hp, Zi fun e => by cases e⟩
       case measure => simp [intOf]; omega
      ·have hltI : ¬ (j : Int) < (l3 : Int) := by omega
       have HF2 : Hid (cntVs x (v.parts.take j) h = cntV x v h) := Zi (by rw [HE.out, <- HK.out, if_pos rfl, List.take_of_length_le (by rw [HL3.out]; omega)])
       go_upto_region 9 with fail
       apply Zl
       refine Zw rfl (vrow (by assumption) (by assumption)) ?_
       refine Zn HC1.out ?_; rintro e w8 ⟨rfl, hb8⟩; refine ⟨_, rfl, ?_⟩; simp only [Zq]
       have hb8' := hb8
       replace hp := below_look hb8 hp; clear hb8
       iterate 3 refine Zm ?_
       refine Zo rfl (vl (by assumption) (by assumption)) ?_
       iterate 3 refine Zm ?_
       go_wp2_with fail
       go_end0
       exact ⟨rfl, by rw [<- HF2.out]; exact HA.out.old hb8', HKe.out.trans (C' := Cnt G k) (fun b h => .inl h) (Keep.of hb8')⟩
open Go.RowKit Go.Proofs.Ytpamocglecangaa.Nm
set_option linter.unusedSimpArgs false
theorem dplace_any {G : Gh} {k p : Nat} {h : Hp} {w : World} {nr : Nat} {dA : Option Addr} {dc : Nat} {oA : Option Addr} {oc : Nat} {bA : Option Addr} {bc : Nat} {lA : Option Addr} {lc : Nat} {rA : Option Addr} {rc : Nat} (hh : DAt w G k p h nr dA dc oA oc bA bc lA lc rA rc) (o f : Int) (ho : (Lit.int .i64 o).wf = true) (hf : (Lit.int .i64 f).wf = true) :
  Calls Try.prog 90 #[.pointer (some ⟨p, 0, none⟩), .int .i64 o, .int .i64 f] w fun e w' => e = .returned (.int .i64 (placeE h o f)) /\ Below w.heap.size w w' := by
 have hb := Below.refl w.heap.size w
 have hp := hh.blk
 have HH := Zi hh
 clear hh ho hf
 go_enter Try.func90, Try.ntmps90
 go_upto_region 0 with fail
 apply Zl
 refine Zm ?_
 by_cases h1 : 0 <= o
 ·obtain ⟨n, rfl⟩ : ∃ n : Nat, o = (n : Int) := ⟨o.toNat, by omega⟩
  have h1I : ¬ (n : Int) < 0 := by omega
  by_cases h2 : n < h.obs.length
  ·have h2I : ¬ (n : Int) ≥ (h.obs.length : Int) := by omega
   have h2J : (n : Int) < (h.obs.length : Int) := by omega
   have ho := List.getElem?_eq_getElem h2
   obtain ⟨ob, hoe⟩ : ∃ ob, ob = h.obs[n] := ⟨_, rfl⟩
   rw [<- hoe] at ho
   obtain ⟨g, rows, rfl, hR⟩ := HH.out.obs.rows ho
   obtain ⟨tr0, fA, fc, hL, -, -⟩ := hR.loads ho
   have HL := Zi hL
   have HL0 := Zi (hL w (Below.refl _ _))
   have HE : Hid (placeE h (n : Int) f = if 0 <= f /\ f < (ob.fields.length : Int) then (if ob.state = 3 then 141 else 0) else 1) := Zi (by simp [placeE, ho])
   clear hL hR hoe HH ho
   by_cases h3 : 0 <= f
   ·have h3I : ¬ f < 0 := by omega
    by_cases h4 : f < (ob.fields.length : Int)
    ·have h4I : ¬ f ≥ (ob.fields.length : Int) := by omega
     have HE2 : Hid (placeE h (n : Int) f = if ob.state = 3 then 141 else 0) := Zi (by rw [HE.out, if_pos ⟨h3, h4⟩])
     clear h3 h4 HE h1
     go_upto_region 1 with fail
     apply Zl
     iterate 7 refine Zm ?_
     refine Zo rfl (dh1 (by assumption)) ?_
     iterate 12 refine Zm ?_
     refine Zo rfl (dh1 (by assumption)) ?_
     iterate 3 refine Zm ?_
     refine Zo rfl (HL0.out.f) ?_
     iterate 3 refine Zm ?_
     go_upto_region 3 with fail
     apply Zl
     iterate 3 refine Zm ?_
     refine Zo rfl (dh1 (by assumption)) ?_
     iterate 3 refine Zm ?_
     refine Zo rfl (HL0.out.s) ?_
     refine Zm ?_
     clear HL HL0 hp
     by_cases h5 : ob.state = 3
     ·have e5 : (ob.state == 3) = true := by simp [h5]
      rw [if_pos h5] at HE2
      clear h5
      go_upto_region 4 with fail
      apply Zl
      refine Zm ?_
      go_wp2_with fail
      go_ret
      exact ⟨by rw [HE2.out]; rfl, hb⟩
     ·have e5 : (ob.state == 3) = false := by simp [h5]
      rw [if_neg h5] at HE2
      clear h5
      go_upto_region 5 with fail
      apply Zl
      refine Zm ?_
      go_wp2_with fail
      go_ret
      exact ⟨by rw [HE2.out]; rfl, hb⟩
    ·have h4I : f ≥ (ob.fields.length : Int) := by omega
     have HE2 : Hid (placeE h (n : Int) f = 1) := Zi (by rw [HE.out, if_neg (fun c => h4 c.2)])
     clear h3 h4 HE h1
     go_upto_region 1 with fail
     apply Zl
     iterate 7 refine Zm ?_
     refine Zo rfl (dh1 (by assumption)) ?_
     iterate 12 refine Zm ?_
     refine Zo rfl (dh1 (by assumption)) ?_
     iterate 3 refine Zm ?_
     refine Zo rfl (HL0.out.f) ?_
     iterate 3 refine Zm ?_
     clear HL HL0 hp
     go_upto_region 2 with fail
     apply Zl
     refine Zm ?_
     go_wp2_with fail
     go_ret
     exact ⟨by rw [HE2.out]; rfl, hb⟩
   ·have h3I : f < 0 := by omega
    have HE2 : Hid (placeE h (n : Int) f = 1) := Zi (by rw [HE.out, if_neg (fun c => h3 c.1)])
    clear h3 HE h1
    go_upto_region 1 with fail
    apply Zl
    iterate 7 refine Zm ?_
    refine Zo rfl (dh1 (by assumption)) ?_
    iterate 8 refine Zm ?_
    iterate 11 ((first | ((with_reducible refine wl_skipU ?_ ?_ ?_); exact rfl; exact rfl) | ((with_reducible refine wl_skip ?_ ?_); exact rfl; simp only [Zq])))
    refine Zm ?_
    clear HL HL0 hp
    go_upto_region 2 with fail
    apply Zl
    refine Zm ?_
    go_wp2_with fail
    go_ret
    exact ⟨by rw [HE2.out]; rfl, hb⟩
  ·have h2I : (n : Int) ≥ (h.obs.length : Int) := by omega
   have HE2 : Hid (placeE h (n : Int) f = 1) := Zi (by simp [placeE, List.getElem?_eq_none (by omega : h.obs.length <= n)])
   clear h1 HH
   go_upto_region 1 with fail
   apply Zl
   iterate 7 refine Zm ?_
   refine Zo rfl (dh1 (by assumption)) ?_
   iterate 4 refine Zm ?_
   iterate 2 ((first | ((with_reducible refine wl_skipU ?_ ?_ ?_); exact rfl; exact rfl) | ((with_reducible refine wl_skip ?_ ?_); exact rfl; simp only [Zq])))
   iterate 2 refine Zm ?_
   iterate 11 ((first | ((with_reducible refine wl_skipU ?_ ?_ ?_); exact rfl; exact rfl) | ((with_reducible refine wl_skip ?_ ?_); exact rfl; simp only [Zq])))
   refine Zm ?_
   clear hp
   go_upto_region 2 with fail
   apply Zl
   refine Zm ?_
   go_wp2_with fail
   go_ret
   exact ⟨by rw [HE2.out]; rfl, hb⟩
 ·have h1I : o < 0 := by omega
  have HE2 : Hid (placeE h o f = 1) := Zi (by simp [placeE, h1])
  clear h1 HH hp
  go_upto_region 1 with fail
  apply Zl
  iterate 3 refine Zm ?_
  iterate 7 ((first | ((with_reducible refine wl_skipU ?_ ?_ ?_); exact rfl; exact rfl) | ((with_reducible refine wl_skip ?_ ?_); exact rfl; simp only [Zq])))
  iterate 2 refine Zm ?_
  iterate 2 ((first | ((with_reducible refine wl_skipU ?_ ?_ ?_); exact rfl; exact rfl) | ((with_reducible refine wl_skip ?_ ?_); exact rfl; simp only [Zq])))
  iterate 2 refine Zm ?_
  iterate 11 ((first | ((with_reducible refine wl_skipU ?_ ?_ ?_); exact rfl; exact rfl) | ((with_reducible refine wl_skip ?_ ?_); exact rfl; simp only [Zq])))
  refine Zm ?_
  go_upto_region 2 with fail
  apply Zl
  refine Zm ?_
  go_wp2_with fail
  go_ret
  exact ⟨by rw [HE2.out]; rfl, hb⟩
section
variable {w : World} {G : Gh} {k p nr : Nat} {h : Hp} {dA : Option Addr} {dc : Nat} {oA : Option Addr} {oc : Nat} {bA : Option Addr} {bc : Nat} {lA : Option Addr} {lc : Nat} {rA : Option Addr} {rc : Nat}
theorem DAt.hdr (hh : DAt w G k p h nr dA dc oA oc bA bc lA lc rA rc) : HdrD w p h.obs.length h.bus.length := ⟨_, _, _, _, _, _, _, _, _, _, _, _, _, hh.blk⟩
theorem DAt.lens (hh : DAt w G k p h nr dA dc oA oc bA bc lA lc rA rc) : h.obs.length <= oc /\ oc <= maxLen /\ h.bus.length <= bc /\ bc <= maxLen /\ h.lev.length <= lc /\ lc <= maxLen := by
 obtain ⟨r1, g1, e1, -⟩ := hh.obs
 obtain ⟨r2, g2, e2, -⟩ := hh.bus
 obtain ⟨r3, g3, e3, -⟩ := hh.lev
 exact ⟨by rw [<- e1]; exact g1.cap, g1.max, by rw [<- e2]; exact g2.cap, g2.max, by rw [<- e3]; exact g3.cap, g3.max⟩
theorem dof_heap (hh : DAt w G k p h nr dA dc oA oc bA bc lA lc rA rc) {D : Nat -> Prop} {v : Va} {row : Array Value} (hv : VAt w D v row) : Calls Try.prog 85 #[.pointer (some ⟨p, 0, none⟩), .agg row] w fun e w' => e = .returned (.bool (ofV h.obs.length h.bus.length v)) /\ Below w.heap.size w w' :=
 dof_any p _ _ (Nat.le_trans hh.lens.1 hh.lens.2.1) (Nat.le_trans hh.lens.2.2.1 hh.lens.2.2.2.1) v w D row hv hh.hdr
end
def darrE (h : Hp) (v : Va) : Int := if arrV h.bus.length v then (match h.bus[v.num.toNat]? with | some b => if b.count = 0 then 140 else 0 | none => 4) else 4
theorem arrV_of {h : Hp} {v : Va} : arrV h.bus.length v = (ofV h.obs.length h.bus.length v && (v.kind == 8)) := by
 unfold arrV
 rw [ofV_eq]
 by_cases h8 : v.kind = 8
 ·rw [if_neg (by omega), if_pos h8]; simp [h8]
 ·simp [h8]
theorem darray_any {G : Gh} {k p nr : Nat} {h : Hp} {w : World} {dA : Option Addr} {dc : Nat} {oA : Option Addr} {oc : Nat} {bA : Option Addr} {bc : Nat} {lA : Option Addr} {lc : Nat} {rA : Option Addr} {rc : Nat} (hh : DAt w G k p h nr dA dc oA oc bA bc lA lc rA rc) {v : Va} {D : Nat -> Prop} {row : Array Value} (hv : VAt w D v row) :
  Calls Try.prog 109 #[.pointer (some ⟨p, 0, none⟩), .agg row] w fun e w' => e = .returned (.int .i64 (darrE h v)) /\ Below w.heap.size w w' := by
 obtain ⟨tr, A2, l2, c2, A3, l3, c3, hr⟩ := hv.row
 have HR := Zi hr
 have HH := Zi hh
 have HV := Zi hv
 have hb := Below.refl w.heap.size w
 have hh0 := hh.blk
 clear hv hr hh
 have hh := hh0
 clear hh0
 go_enter Try.func109, Try.ntmps109
 go_upto_region 0 with fail
 apply Zl
 have lthhq := heap_lt hh; (with_reducible refine wl_boxV rfl ?_); intro W q hbn hlq hq; replace hh := below_look hbn hh; replace hb := hb.trans (hbn.mono hb.size); clear hbn; simp only [Zq]
 refine Zm ?_
 have hp := hq
 clear hq
 have hao := arrV_of (h := h) (v := v)
 obtain ⟨bo, hbo⟩ : ∃ b, b = ofV h.obs.length h.bus.length v := ⟨_, rfl⟩
 have hc := dof_heap (HH.out.old hb) (HV.out.old hb)
 rw [<- hbo] at hc hao
 have HC := Zi hc
 clear hc hbo
 cases bo with
 | false =>
  have HD : Hid (darrE h v = 4) := Zi (by unfold darrE; rw [hao]; rfl)
  clear hao HH
  go_upto_region 1 with fail
  apply Zl
  refine Zm ?_
  refine Zw rfl (vrow (by assumption) (by assumption)) ?_
  refine Zn HC.out ?_; rintro e w7 ⟨rfl, hb7⟩; refine ⟨_, rfl, ?_⟩; simp only [Zq]
  iterate 2 refine Zm ?_
  iterate 3 ((first | ((with_reducible refine wl_skipU ?_ ?_ ?_); exact rfl; exact rfl) | ((with_reducible refine wl_skip ?_ ?_); exact rfl; simp only [Zq])))
  refine Zm ?_
  replace hb := hb.trans (hb7.mono hb.size)
  clear hb7 HC hh hp
  go_upto_region 2 with fail
  apply Zl
  refine Zm ?_
  go_wp2_with fail
  go_ret
  exact ⟨by rw [HD.out]; rfl, hb⟩
 | true =>
  by_cases h8 : v.kind = 8
  ·have e8 : (v.kind != 8) = false := by simp [h8]
   have ha : arrV h.bus.length v = true := by rw [hao, h8]; rfl
   obtain ⟨n, o, -, hn, hnl, ho⟩ := arrV.get ha
   have hnlI : (n : Int) < (h.bus.length : Int) := by omega
   have HD : Hid (darrE h v = if o.count = 0 then 140 else 0) := Zi (by unfold darrE; rw [ha, hn]; simp [ho])
   have HN := Zi hn
   have HOO := Zi ho
   clear hao h8 ha hn ho
   go_upto_region 1 with fail
   apply Zl
   refine Zm ?_
   refine Zw rfl (vrow (by assumption) (by assumption)) ?_
   refine Zn HC.out ?_; rintro e w7 ⟨rfl, hb7⟩; refine ⟨_, rfl, ?_⟩; simp only [Zq]
   replace hh := below_look hb7 hh; replace hp := below_look hb7 hp; replace hb := hb.trans (hb7.mono hb.size); clear hb7
   iterate 3 refine Zm ?_
   refine Zo rfl (vk (by assumption) (by assumption)) ?_
   iterate 2 refine Zm ?_
   clear HC
   obtain ⟨g, rows, rfl, hR⟩ := (HH.out.old hb).bus.rows HOO.out
   obtain ⟨fA, fc, hL, -⟩ := hR.loads HOO.out
   have HL := Zi hL
   clear hR hL
   go_upto_region 3 with fail
   by_cases c0 : o.count = 0
   ·have e0 : (o.count == 0) = true := by simp [c0]
    rw [if_pos c0] at HD
    clear c0
    refine wp_region_belowAll mixed (by kernel_rfl) ?_
    iterate 3 refine Zt ?_
    refine Zv rfl (fun w' hw' => dh2 (below_look hw' (by assumption))) ?_
    refine Zt ?_
    refine Zv rfl (fun w' hw' => vnN (below_look hw' (by assumption)) (by assumption) (by assumption)) ?_
    iterate 2 refine Zt ?_
    refine Zv rfl (fun w' hw' => (HL.out w' hw').c) ?_
    refine Zt ?_
    intro w9 hb9
    replace hb := hb.trans (hb9.mono hb.size)
    clear hb9 HL hh hp
    go_upto_region 4 with fail
    apply Zl
    refine Zm ?_
    go_wp2_with fail
    go_ret
    exact ⟨by rw [HD.out]; rfl, hb⟩
   ·have e0 : (o.count == 0) = false := by simp [c0]
    rw [if_neg c0] at HD
    clear c0
    refine wp_region_belowAll mixed (by kernel_rfl) ?_
    iterate 3 refine Zt ?_
    refine Zv rfl (fun w' hw' => dh2 (below_look hw' (by assumption))) ?_
    refine Zt ?_
    refine Zv rfl (fun w' hw' => vnN (below_look hw' (by assumption)) (by assumption) (by assumption)) ?_
    iterate 2 refine Zt ?_
    refine Zv rfl (fun w' hw' => (HL.out w' hw').c) ?_
    refine Zt ?_
    intro w9 hb9
    replace hb := hb.trans (hb9.mono hb.size)
    clear hb9 HL hh hp
    go_upto_region 5 with fail
    apply Zl
    refine Zm ?_
    go_wp2_with fail
    go_ret
    exact ⟨by rw [HD.out]; rfl, hb⟩
  ·have e8 : (v.kind != 8) = true := by simp [h8]
   have HD : Hid (darrE h v = 4) := Zi (by unfold darrE; rw [hao, show (v.kind == 8) = false by simp [h8]]; rfl)
   clear hao h8 HH
   go_upto_region 1 with fail
   apply Zl
   refine Zm ?_
   refine Zw rfl (vrow (by assumption) (by assumption)) ?_
   refine Zn HC.out ?_; rintro e w7 ⟨rfl, hb7⟩; refine ⟨_, rfl, ?_⟩; simp only [Zq]
   replace hh := below_look hb7 hh; replace hp := below_look hb7 hp; replace hb := hb.trans (hb7.mono hb.size); clear hb7
   iterate 3 refine Zm ?_
   refine Zo rfl (vk (by assumption) (by assumption)) ?_
   iterate 2 refine Zm ?_
   clear HC hh hp
   go_upto_region 2 with fail
   apply Zl
   refine Zm ?_
   go_wp2_with fail
   go_ret
   exact ⟨by rw [HD.out]; rfl, hb⟩
theorem dchanged_any {G : Gh} {k p nr : Nat} {h : Hp} {w : World} {dA : Option Addr} {dc : Nat} {oA : Option Addr} {oc : Nat} {bA : Option Addr} {bc : Nat} {lA : Option Addr} {lc : Nat} {rA : Option Addr} {rc : Nat} (hh : DAt w G k p h nr dA dc oA oc bA bc lA lc rA rc) {v x : Va} {D : Nat -> Prop} {row rowx : Array Value} (hv : VAt w D v row) (hx : VAt w D x rowx) :
  Calls Try.prog 110 #[.pointer (some ⟨p, 0, none⟩), .agg row, .agg rowx] w fun e w' => e = .returned (.int .i64 (aloneE h v x)) /\ Below w.heap.size w w' := by
 obtain ⟨tr, A2, l2, c2, A3, l3, c3, hr⟩ := hv.row
 have HR := Zi hr
 have HH := Zi hh
 have HV := Zi hv
 have HX := Zi hx
 have hs1 := hv.size
 have hs2 := hx.size
 have hb := Below.refl w.heap.size w
 have hh0 := hh.blk
 clear hv hx hr hh
 have hh := hh0
 clear hh0
 go_enter Try.func110, Try.ntmps110
 go_upto_region 0 with fail
 apply Zl
 have lthhq := heap_lt hh; (with_reducible refine wl_boxV rfl ?_); intro W q hbn hlq hq; replace hh := below_look hbn hh; replace hb := hb.trans (hbn.mono hb.size); clear hbn; simp only [Zq]
 have lthhqx := heap_lt hh; have lthqqx := heap_lt hq; (with_reducible refine wl_boxV rfl ?_); intro W2 qx hbn hlqx hqx; replace hh := below_look hbn hh; replace hq := below_look hbn hq; replace hb := hb.trans (hbn.mono hb.size); clear hbn; simp only [Zq]
 refine Zm ?_
 have hp := hq
 clear hq
 obtain ⟨bo, hbo⟩ : ∃ b, b = ofV h.obs.length h.bus.length x := ⟨_, rfl⟩
 have hc := dof_heap (HH.out.old hb) (HX.out.old hb)
 rw [<- hbo] at hc
 have HC := Zi hc
 have HBO := Zi hbo
 clear hc hbo
 go_upto_region 1 with fail
 apply Zl
 refine Zm ?_
 refine Zw rfl (row35 hqx hs2) ?_
 refine Zn HC.out ?_; rintro e w7 ⟨rfl, hb7⟩; refine ⟨_, rfl, ?_⟩; simp only [Zq]
 replace hh := below_look hb7 hh; replace hp := below_look hb7 hp; replace hb := hb.trans (hb7.mono hb.size); clear hb7
 refine Zm ?_
 clear HC
 cases bo with
 | false =>
  have HD : Hid (aloneE h v x = 4) := Zi (by unfold aloneE; rw [<- HBO.out, Bool.and_false]; rfl)
  go_upto_region 2 with fail
  apply Zl
  refine Zm ?_
  go_wp2_with fail
  go_ret
  exact ⟨by rw [HD.out]; rfl, hb⟩
 | true =>
  obtain ⟨ea, hea⟩ : ∃ e, e = darrE h v := ⟨_, rfl⟩
  have hc := darray_any (HH.out.old hb) (HV.out.old hb)
  rw [<- hea] at hc
  have HC := Zi hc
  have HEA := Zi hea
  clear hc hea
  go_upto_region 3 with fail
  apply Zl
  refine Zm ?_
  refine Zw rfl (row35 hp hs1) ?_
  refine Zn HC.out ?_; rintro e w8 ⟨rfl, hb8⟩; refine ⟨_, rfl, ?_⟩; simp only [Zq]
  replace hh := below_look hb8 hh; replace hp := below_look hb8 hp; replace hb := hb.trans (hb8.mono hb.size); clear hb8
  refine Zm ?_
  clear HC
  by_cases h0 : ea = 0
  ·have e0 : (ea != 0) = false := by simp [h0]
   have ha : arrV h.bus.length v = true := by
    have := HEA.out
    unfold darrE at this
    split at this
    ·assumption
    ·omega
   obtain ⟨n, o, -, hn, hnl, ho⟩ := arrV.get ha
   have hnlI : (n : Int) < (h.bus.length : Int) := by omega
   have hc0 : o.count ≠ 0 := fun e => by
    have := HEA.out
    unfold darrE at this
    rw [ha, hn] at this
    simp [ho, e] at this
    omega
   have HD : Hid (aloneE h v x = if o.count > 1 then 141 else 0) := Zi (by unfold aloneE; rw [<- HBO.out, ha, hn]; simp [ho, hc0])
   have HN := Zi hn
   obtain ⟨g, rows, rfl, hR⟩ := (HH.out.old hb).bus.rows ho
   obtain ⟨fA, fc, hL, -⟩ := hR.loads ho
   have HL := Zi hL
   clear ha hn ho hc0 hR hL h0
   go_upto_region 6 with fail
   by_cases c1 : o.count > 1
   ·have h1I : (1 : Int) < o.count := c1
    rw [if_pos c1] at HD
    refine wp_region_belowAll mixed (by kernel_rfl) ?_
    iterate 3 refine Zt ?_
    refine Zv rfl (fun w' hw' => dh2 (below_look hw' (by assumption))) ?_
    refine Zt ?_
    refine Zv rfl (fun w' hw' => vnN (below_look hw' (by assumption)) (by assumption) (by assumption)) ?_
    iterate 2 refine Zt ?_
    refine Zv rfl (fun w' hw' => (HL.out w' hw').c) ?_
    refine Zt ?_
    intro w9 hb9
    replace hb := hb.trans (hb9.mono hb.size)
    clear hb9 HL hh hp
    go_upto_region 7 with fail
    apply Zl
    refine Zm ?_
    go_wp2_with fail
    go_ret
    exact ⟨by rw [HD.out]; rfl, hb⟩
   ·have h1I : ¬ (1 : Int) < o.count := c1
    rw [if_neg c1] at HD
    refine wp_region_belowAll mixed (by kernel_rfl) ?_
    iterate 3 refine Zt ?_
    refine Zv rfl (fun w' hw' => dh2 (below_look hw' (by assumption))) ?_
    refine Zt ?_
    refine Zv rfl (fun w' hw' => vnN (below_look hw' (by assumption)) (by assumption) (by assumption)) ?_
    iterate 2 refine Zt ?_
    refine Zv rfl (fun w' hw' => (HL.out w' hw').c) ?_
    refine Zt ?_
    intro w9 hb9
    replace hb := hb.trans (hb9.mono hb.size)
    clear hb9 HL hh hp
    go_upto_region 8 with fail
    apply Zl
    refine Zm ?_
    go_wp2_with fail
    go_ret
    exact ⟨by rw [HD.out]; rfl, hb⟩
  ·have e0 : (ea != 0) = true := by simp [h0]
   have HD : Hid (aloneE h v x = ea) := Zi (by
    rw [HEA.out]
    rw [HEA.out] at h0
    unfold aloneE darrE at *
    rw [<- HBO.out, Bool.and_true]
    by_cases ha : arrV h.bus.length v = true
    ·rw [if_pos ha] at h0 ⊢
     rw [if_pos ha]
     cases hbb : h.bus[v.num.toNat]? with
     | none => rfl
     | some b =>
      rw [hbb] at h0
      simp only at h0 ⊢
      by_cases e : b.count = 0
      ·rw [if_pos e, if_pos e]
      ·rw [if_neg e] at h0; exact absurd rfl h0
    ·rw [if_neg ha, if_neg ha])
   clear h0
   go_upto_region 5 with fail
   apply Zl
   iterate 2 refine Zm ?_
   go_wp2_with fail
   go_ret
   exact ⟨by rw [HD.out]; rfl, hb⟩
open Go.RowKit Go.Proofs.Ytpamocglecangaa.Nm
set_option linter.unusedSimpArgs false
section
variable {w w' : World} {G G' : Gh} {k p n : Nat} {h : Hp}
theorem DDone.marked (hh : DHeapAt w G k p h n) (hf : Fr w G) (hb : Below w.heap.size w w') {r : Nat} (hr : w.heap.size <= r) (hr2 : r < w'.heap.size) : DDone w G k p h n w' (mark G k r) where
 heap := by
  obtain ⟨dA, dc, oA, oc, bA, bc, lA, lc, rA, rc, hh⟩ := hh
  exact ⟨_, _, _, _, _, _, _, _, _, _, (hh.regh fun b hb => if_neg (by omega)).old hb⟩
 fr := fun b hb2 => by
  unfold mark
  rw [if_neg (by omega)]
  exact hf b (by have := hb.size; omega)
 old := fun b hb => if_neg (by omega)
 new := fun b hb2 => by
  unfold mark
  split
  ·exact .inr ⟨_, rfl⟩
  ·exact .inl (hf b hb2)
 keep := Keep.of hb
theorem DDone.put {W : World} {G1 : Gh} (d : DDone w G k p h n W G1) {r : Nat} (hr : G1 r = some (k, .tmp)) (hr2 : w.heap.size <= r) (hk : Keep (fun b => b = r) W w') : DDone w G k p h n w' G1 where
 heap := by
  obtain ⟨dA, dc, oA, oc, bA, bc, lA, lc, rA, rc, hh⟩ := d.heap
  exact ⟨_, _, _, _, _, _, _, _, _, _, hh.same (fun b hb hm => hk.block b hb fun e => by obtain ⟨x, e2, h3⟩ := hm; rw [e, hr] at e2; cases e2; exact h3 rfl) fun b hb hn => hk.block b hb fun e => by rw [e, hr] at hn; cases hn⟩
 fr := d.fr.on hk.size
 old := d.old
 new := d.new
 keep := d.keep.trans (C' := fun b => b = r) (fun b e => .inr (by omega)) hk
theorem dcount_done (hh : DHeapAt w G k p h n) (hf : Fr w G) {v : Va} {row : Array Value} (hv : VAt w (Imm G) v row) (x : Int) (hx : (Lit.int .i64 x).wf = true) (ho : ofV h.obs.length h.bus.length v = true) :
  Calls Try.prog 87 #[.pointer (some ⟨p, 0, none⟩), .agg row, .int .i64 x] w fun e w' => e = .returned (.tuple #[]) /\ DDone w G k p (cntV x v h) n w' G := by
 obtain ⟨dA, dc, oA, oc, bA, bc, lA, lc, rA, rc, hh⟩ := hh
 refine (dcount_any G k p n x hx v h w row _ _ _ _ _ _ _ _ _ _ hv hh hf ho).mono ?_
 rintro e w' ⟨h1, h2, h3⟩
 exact ⟨h1, ⟨_, _, _, _, _, _, _, _, _, _, h2⟩, hf.on h3.size, fun b _ => rfl, fun b hb => .inl (hf b hb), (Keep.refl _ w).trans (fun b hb => .inl hb.mine) h3⟩
theorem dof_done (hh : DHeapAt w G k p h n) {D : Nat -> Prop} {v : Va} {row : Array Value} (hv : VAt w D v row) : Calls Try.prog 85 #[.pointer (some ⟨p, 0, none⟩), .agg row] w fun e w' => e = .returned (.bool (ofV h.obs.length h.bus.length v)) /\ Below w.heap.size w w' := by
 obtain ⟨dA, dc, oA, oc, bA, bc, lA, lc, rA, rc, hh⟩ := hh
 exact dof_heap hh hv
theorem ddead_done (hh : DHeapAt w G k p h n) {D : Nat -> Prop} {v : Va} {row : Array Value} (hv : VAt w D v row) (ho : ofV h.obs.length h.bus.length v = true) : Calls Try.prog 86 #[.pointer (some ⟨p, 0, none⟩), .agg row] w fun e w' => e = .returned (.bool (deadV h v)) /\ Below w.heap.size w w' := by
 obtain ⟨dA, dc, oA, oc, bA, bc, lA, lc, rA, rc, hh⟩ := hh
 exact ddead_any G k p h n v w D row _ _ _ _ _ _ _ _ _ _ hv hh ho
theorem DDone.newva {W w2 : World} {G1 : Gh} (d : DDone w G k p h n W G1) {v : Va} {row : Array Value} (hv : VAt w2 (fun b => W.heap.size <= b) v row) : VAt w2 (Imm G1) v row := hv.weak fun b hb => d.fr b hb
end
def DValErr (w : World) (G : Gh) (k p n : Nat) (r : Hp × Va × Int) (e : Ending) (w' : World) : Prop := ∃ G' row, e = .returned (.tuple #[.agg row, .int .i64 r.2.2]) /\ VAt w' (Imm G') r.2.1 row /\ DDone w G k p r.1 n w' G'
def DValBErr (w : World) (G : Gh) (k p n : Nat) (r : Hp × Va × Bool × Int) (e : Ending) (w' : World) : Prop := ∃ G' row, e = .returned (.tuple #[.agg row, .bool r.2.2.1, .int .i64 r.2.2.2]) /\ VAt w' (Imm G') r.2.1 row /\ DDone w G k p r.1 n w' G'
theorem dCopy_any {G : Gh} {k p n : Nat} {h : Hp} {w : World} (hh : DHeapAt w G k p h n) (hf : Fr w G) {v : Va} {row : Array Value} (hv : VAt w (Imm G) v row) (hnd : nodesF v <= 1000000) :
  Calls Try.prog 47 #[.pointer (some ⟨p, 0, none⟩), .agg row] w (DValErr w G k p n (copyP h v)) := by
 have HND := Zi hnd
 clear hnd
 have HX := Zi hh
 have HF := Zi hf
 have HV := Zi hv
 have hvs := hv.size
 have hv1 := hv.one
 have hzs : zrow.size = 9 := rfl
 have zone : zrow.all (·.oneCell') = true := (zero_va w (Imm G)).one
 have hb := Below.refl w.heap.size w
 clear hh hf hv
 go_enter Try.func47, Try.ntmps47
 go_upto_region 0 with fail
 apply Zl
 (with_reducible refine wl_boxV rfl ?_); intro W q hbn hlq hq; replace hb := hb.trans (hbn.mono hb.size); clear hbn; simp only [Zq]
 have lthqr := heap_lt hq; (with_reducible refine wl_allV ?_); intro W2 r hbn hlr hr; replace hq := below_look hbn hq; replace hb := hb.trans (hbn.mono hb.size); clear hbn; simp only [Zq]
 refine Zm ?_
 have hrl : w.heap.size <= r := by omega
 have hql := heap_lt hq
 have HRl := Zi hrl
 have hqG : G q = none := HF.out q (by omega)
 have HQ : Hid (¬ Mine (mark G k r) k q) := Zi (by rintro ⟨x, e, -⟩; unfold mark at e; rw [if_neg (by omega), hqG] at e; cases e)
 have HDn := Zi (DDone.marked HX.out HF.out hb hrl (heap_lt hr))
 have HM := Zi (mark_same G k r)
 have HNM := Zi (mark_not G k r)
 have hvv := HDn.out.va HV.out
 clear HV
 have HV := Zi hvv
 clear hvv HX HF hb hrl hql hqG
 obtain ⟨bb, hbb⟩ : ∃ b, b = ofV h.obs.length h.bus.length v := ⟨_, rfl⟩
 have hc := dof_done HDn.out.heap HV.out
 rw [<- hbb] at hc
 have HC := Zi hc
 have HB := Zi hbb
 clear hc hbb
 go_upto_region 1 with fail
 apply Zl
 refine Zm ?_
 refine Zw rfl (row35 hq hvs) ?_
 refine Zn HC.out ?_; rintro e w7 ⟨rfl, hb7⟩; refine ⟨_, rfl, ?_⟩; simp only [Zq]
 replace HDn := Zi (HDn.out.quiet hb7); replace HV := Zi (HV.out.old hb7); replace hq := below_look hb7 hq; replace hr := below_look hb7 hr; clear hb7
 refine Zm ?_
 clear HC
 cases bb with
 | false =>
  have HD : Hid (copyP h v = (h, va0, 4)) := Zi (by unfold copyP; rw [<- HB.out]; rfl)
  go_upto_region 2 with fail
  apply Zl
  refine wl_w rfl (build35 _ _ rfl _) ?_
  simp only [Zq]
  (with_reducible refine wl_putV rfl zone hzs rfl rfl hr ?_); rw [put_noneA]; intro W10 hbx hsz hkx hnx
  replace HDn := Zi (HDn.out.put HM.out HRl.out (Keep.of_put hbx hsz hkx))
  clear hr hbx hsz hkx
  have hr := hnx
  clear hnx
  refine Zm ?_
  go_wp2_with fail
  refine bodyPost_ret (res35t rfl _ _ r rfl rfl rfl hr) rfl ?_
  rw [HD.out]
  exact ⟨_, zrow, rfl, zero_va _ _, HDn.out⟩
 | true =>
  obtain ⟨bd, hbd⟩ : ∃ b, b = deadV h v := ⟨_, rfl⟩
  have hc := ddead_done HDn.out.heap HV.out HB.out.symm
  rw [<- hbd] at hc
  have HC := Zi hc
  have HBD := Zi hbd
  clear hc hbd
  go_upto_region 3 with fail
  apply Zl
  refine Zm ?_
  refine Zw rfl (row35 hq hvs) ?_
  refine Zn HC.out ?_; rintro e w7 ⟨rfl, hb7⟩; refine ⟨_, rfl, ?_⟩; simp only [Zq]
  replace HDn := Zi (HDn.out.quiet hb7); replace HV := Zi (HV.out.old hb7); replace hq := below_look hb7 hq; replace hr := below_look hb7 hr; clear hb7
  clear HC
  cases bd with
  | true =>
   have HD : Hid (copyP h v = (h, va0, 140)) := Zi (by unfold copyP; rw [<- HB.out, <- HBD.out]; rfl)
   go_upto_region 4 with fail
   apply Zl
   refine wl_w rfl (build35 _ _ rfl _) ?_
   simp only [Zq]
   (with_reducible refine wl_putV rfl zone hzs rfl rfl hr ?_); rw [put_noneA]; intro W10 hbx hsz hkx hnx
   replace HDn := Zi (HDn.out.put HM.out HRl.out (Keep.of_put hbx hsz hkx))
   clear hr hbx hsz hkx
   have hr := hnx
   clear hnx
   refine Zm ?_
   go_wp2_with fail
   refine bodyPost_ret (res35t rfl _ _ r rfl rfl rfl hr) rfl ?_
   rw [HD.out]
   exact ⟨_, zrow, rfl, zero_va _ _, HDn.out⟩
  | false =>
   have HD : Hid (copyP h v = (cntV 1 v h, v, 0)) := Zi (by unfold copyP; rw [<- HB.out, <- HBD.out]; rfl)
   have HC := Zi (dcount_done HDn.out.heap HDn.out.fr HV.out 1 (by rfl) HB.out.symm)
   go_upto_region 5 with fail
   apply Zl
   refine Zm ?_
   refine Zw rfl (row35 hq hvs) ?_
   refine Zn HC.out ?_; rintro e w8 ⟨rfl, hd8⟩; refine ⟨_, rfl, ?_⟩; simp only [Zq]
   replace HV := Zi (hd8.va HV.out); replace HDn := Zi (HDn.out.trans hd8); replace hq := hd8.look hq HQ.out; replace hr := hd8.look hr HNM.out; clear hd8
   clear HC
   have HC := Zi (CopyValue_any v HND.out w8 _ _ HV.out)
   go_upto_region 6 with fail
   apply Zl
   refine Zw rfl (row35 hq hvs) ?_
   refine Zn HC.out ?_; rintro e w9 ⟨row9, rfl, hv9, hb9⟩; refine ⟨_, rfl, ?_⟩; simp only [Zq]
   have hvs9 := hv9.size
   have hv19 := hv9.one
   have hvn := HDn.out.newva hv9
   replace HDn := Zi (HDn.out.quiet hb9); replace HV := Zi (HV.out.old hb9); replace hr := below_look hb9 hr; clear hb9
   clear HV HC hv9
   have HV := Zi hvn
   clear hvn
   (with_reducible refine wl_putV hvs9 hv19 hzs rfl rfl hr ?_); rw [put_noneA]; intro W10 hbx hsz hkx hnx
   have HK10 := Zi (Keep.of_put hbx hsz hkx)
   replace HDn := Zi (HDn.out.put HM.out HRl.out HK10.out)
   replace HV := Zi (HV.out.put HM.out HK10.out)
   clear hr hbx hsz hkx
   have hr := hnx
   clear hnx
   refine Zm ?_
   go_wp2_with fail
   refine bodyPost_ret (res35t rfl _ _ r rfl rfl hvs9 hr) rfl ?_
   rw [HD.out]
   exact ⟨_, row9, rfl, HV.out, HDn.out⟩
end Go.Proofs.Ytpamocglecangaa
