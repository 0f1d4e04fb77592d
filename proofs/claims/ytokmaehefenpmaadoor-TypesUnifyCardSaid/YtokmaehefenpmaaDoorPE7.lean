/- The solver's equal. -/
import Derived.Deep.CutBlock
import Derived.Deep.DeepCutAuto
import Derived.Test.YtokmaehefenpmaaDoorPE6
namespace Go.Proofs.YtokmaehefenpmaaDoor
open Go.RowKit Go.ChangeMaps Go.Proofs.YtokmaehefenpmaaDoor.Nm
set_option linter.unusedSimpArgs false
theorem TyAt.inv {w : World} {D : Nat → Prop} {t : Ty} {k : Int} {s : ByteArray} {n : Int} {A : Option Addr} {l c : Nat} (h : TyAt w D t (cell4 k s n A l c)) : ∃ ts, t = .node k s n ts ∧ TysAt w D ts A l c := by
  obtain ⟨k', s', n', A', l', c', ts, rfl, e, -, -, -, hT⟩ := h.parts
  simp [cell4] at e
  obtain ⟨rfl, rfl, rfl, rfl, rfl, rfl⟩ := e
  exact ⟨ts, rfl, hT⟩
theorem var_of {m : Nat} {x : Ty} {k : Int} {s : ByteArray} {n : Int} {ts : List Ty} (hf : FineV m x) (hx : x = .node k s n ts) (hk : k = 12) : ∃ v : Nat, n = (v : Int) ∧ v < m ∧ x = varT v := by
  obtain ⟨h1, h2⟩ := hf.is_var (by rw [hx]; exact hk)
  refine ⟨x.num.toNat, ?_, h1, h2⟩
  rw [hx] at h2
  unfold varT at h2
  injection h2 with _ _ h3 _
  rw [hx]; exact h3
theorem zip_drop {tx ty : List Ty} {j : Nat} {t u : Ty} (ht : tx[j]? = some t) (hu : ty[j]? = some u) : (tx.drop j).zip (ty.drop j) = [(t, u)] ++ (tx.drop (j + 1)).zip (ty.drop (j + 1)) := by
  obtain ⟨h1, rfl⟩ := List.getElem?_eq_some_iff.1 ht
  obtain ⟨h2, rfl⟩ := List.getElem?_eq_some_iff.1 hu
  rw [List.drop_eq_getElem_cons h1, List.drop_eq_getElem_cons h2]
  rfl
set_option maxHeartbeats 4000000 in
set_option maxRecDepth 100000 in
theorem equal_step {m ps q : Nat} (hpq : ps ≠ q) (K : Nat) (ih : ∀ k, k < K → EqualC m ps q k) : EqualC m ps q K := fun sol f a b r es clock w rowa rowb hk hg ha hb' hsa hsb hst hs hta htb => by
  have HTA := Lib.hid hta
  have HTB := Lib.hid htb
  obtain ⟨k1, s1, n1, A1, l1, c1, ts1, ht1, rfl, -⟩ := hta.parts
  obtain ⟨k2, s2, n2, A2, l2, c2, ts2, ht2, rfl, -⟩ := htb.parts
  clear ht1 ht2 hta htb
  have HNA := Lib.hid (show a.nodes ≤ 1000000 by have := hsa.now hg; have := nodes_app sol a ha; omega)
  have HNB := Lib.hid (show b.nodes ≤ 1000000 by have := hsb.now hg; have := nodes_app sol b hb'; omega)
  have HK := Lib.hid hk
  have HG := Lib.hid hg
  have HFA := Lib.hid ha
  have HFB := Lib.hid hb'
  have HSA := Lib.hid hsa
  have HSB := Lib.hid hsb
  have HST := Lib.hid hst
  have HS := Lib.hid hs
  have HPQ := Lib.hid hpq
  have HI := Lib.hid ih
  have HQL : Hid (q < w.heap.size) := Lib.hid (heap_lt hs.map.blk)
  clear hk hg ha hb' hsa hsb hst hs hpq ih
  have hb := Below.refl w.heap.size w
  go_enter Tryd.func70, Tryd.ntmps70
  go_upto_region 0 with (fail)
  apply wp_region_lit
  (with_reducible refine wl_box rfl ?_); intro W p hbn hlp hp; replace hb := hb.trans (hbn.mono hb.size); clear hbn; simp only [Zq]
  have lthpp2 := heap_lt hp; (with_reducible refine wl_box rfl ?_); intro W2 p2 hbn hlp2 hp2; replace hp := below_look hbn hp; replace hb := hb.trans (hbn.mono hb.size); clear hbn; simp only [Zq]
  (with_reducible refine wl_k ?_ ?_); exact rfl; intro K hK; go_simp; refine hK _ ?_; clear hK K
  have hlp' := heap_lt hp
  have hlp2' := heap_lt hp2
  have HPL := Lib.hid (And.intro hlp' hlp2')
  have HPN : Hid (p2 ≠ p) := Lib.hid (by omega)
  have HPN2 : Hid (p ≠ p2) := Lib.hid (by omega)
  have HWZ : Hid (w.heap.size ≤ W2.heap.size) := Lib.hid hb.size
  have HCA : Hid (∀ w', Below W2.heap.size W2 w' → Calls Tryd.prog 71 #[.pointer (some ⟨ps, 0, none⟩), .agg (cell4 k1 s1 n1 A1 l1 c1)] w' (NewTy w' (repl (selK f) a))) := Lib.hid fun w' hw => put_any f ps q es clock w' ((HS.out.old hb).old hw) a HNA.out _ _ ((HTA.out.old hb).old hw)
  have HCB : Hid (∀ w', Below W2.heap.size W2 w' → Calls Tryd.prog 71 #[.pointer (some ⟨ps, 0, none⟩), .agg (cell4 k2 s2 n2 A2 l2 c2)] w' (NewTy w' (repl (selK f) b))) := Lib.hid fun w' hw => put_any f ps q es clock w' ((HS.out.old hb).old hw) b HNB.out _ _ ((HTB.out.old hb).old hw)
  obtain ⟨x, hx⟩ : ∃ x, x = applyTy sol a := ⟨_, rfl⟩
  obtain ⟨y, hy⟩ : ∃ y, y = applyTy sol b := ⟨_, rfl⟩
  rw [put_app HK.out.toKnown HG.out a HFA.out, ← hx] at HCA
  rw [put_app HK.out.toKnown HG.out b HFB.out, ← hy] at HCB
  have HX := Lib.hid hx
  have HY := Lib.hid hy
  clear hx hy
  go_upto_region 1 with (fail)
  go_cut [9] (fun _ wx => ∃ k7 s7 n7 A7 l7 c7 k8 s8 n8 A8 l8 c8, Hid (TyAt wx (fun b => W2.heap.size ≤ b) x (cell4 k7 s7 n7 A7 l7 c7)) ∧ Hid (TyAt wx (fun b => W2.heap.size ≤ b) y (cell4 k8 s8 n8 A8 l8 c8)) ∧ Below w.heap.size w wx ∧ wx.heap[p]? = some (.cells (cell4 k7 s7 n7 A7 l7 c7) 24 (0, 0)) ∧ wx.heap[p2]? = some (.cells (cell4 k8 s8 n8 A8 l8 c8) 24 (0, 0)))
  case first =>
    refine wp_region_held_drew (S := fun _ => True) mixed trivial (fun hS => ?_)
    refine hk3 (i := 0) rfl (by kernel_rfl) Zh hS rfl (fun K hK => ?_); go_simp; refine hK _ ?_; clear hK K; try simp only [Zq]
    refine hk3 (i := 3) rfl (by kernel_rfl) Zh hS rfl (fun K hK => ?_); go_simp; refine hK _ ?_; clear hK K; try simp only [Zq]
    refine ha_two (i := 1) (j := 4) (by kernel_rfl) ?_ ?_
    · refine sh_val (i := 1) rfl rfl (ex_row rfl (f4 hp)) trivial ?_; try simp only [Zq]
      refine ha_two (i := 2) (j := 4) (by kernel_rfl) ?_ ?_
      · refine sh_call (i := 2) rfl rfl (fun K hK => ?_)
        go_simp; refine ⟨_, _, ⟨rfl, rfl⟩, hK _ _ ⟨_, HCA.out _ (Below.refl _ _).drew, ?_⟩⟩; clear hK K; rintro e w7 ⟨row7, rfl, hta7, hb7⟩; refine ⟨_, rfl, trivial, ?_⟩
        obtain ⟨k7, s7, n7, A7, l7, c7, ts7, hu7, rfl, -⟩ := hta7.parts
        have HTA7 := Lib.hid hta7
        replace hb7 := ((Below.refl _ _).drew).trans (hb7.mono (Nat.le_refl _))
        clear hta7 hu7
        try simp only [Zq]
        have hp9 := below_look hb7 hp2
        refine ha_do (i := 4) (by kernel_rfl) rfl rfl (ex_row rfl (f4 hp9)) trivial ?_; try simp only [Zq]
        clear hp9
        refine ha_call (i := 5) (by kernel_rfl) rfl rfl (fun K hK => ?_); go_simp; refine ⟨_, _, ⟨rfl, rfl⟩, hK _ _ ⟨_, HCB.out _ hb7, ?_⟩⟩; clear hK K; rintro e w8 ⟨row8, rfl, hta8, hb8⟩; refine ⟨_, rfl, trivial, ?_⟩
        obtain ⟨k8, s8, n8, A8, l8, c8, ts8, hu8, rfl, -⟩ := hta8.parts
        have hs7 := hb7.size
        have HTA8 := Lib.hid ((HTA7.out.old hb8).weak (D' := fun b => W2.heap.size ≤ b) fun b h => h)
        have HTB8 := Lib.hid (hta8.weak (D' := fun b => W2.heap.size ≤ b) fun b (h : w7.heap.size ≤ b) => by omega)
        have hb9 := hb7.trans (hb8.mono hb7.size)
        clear hta8 hu8 hb7 hb8 HTA7 hs7
        try simp only [Zq]
        have hpa := below_look hb9 hp
        have hpb := below_look hb9 hp2
        replace hb9 := hb.trans (hb9.mono hb.size)
        refine ha_put (i := 6) (by kernel_rfl) rfl rfl _ _ rfl rfl rfl hpa (fun W' hbx => trivial) ?_
        intro X1 hbx hsz hkx hqa hS1
        replace hpb := (hkx _ HPN.out).trans hpb
        replace hb9 := hbx _ _ (by omega) hb9
        have HTA9 := Lib.hid (HTA8.out.mono (fun _ h => h) (fun b h => hkx b (by have := HPL.out.1; have : W2.heap.size ≤ b := h; omega)))
        have HTB9 := Lib.hid (HTB8.out.mono (fun _ h => h) (fun b h => hkx b (by have := HPL.out.1; have : W2.heap.size ≤ b := h; omega)))
        clear HTA8 HTB8 hbx hsz hkx hS1 hpa
        try simp only [Zy]
        refine ha_put (i := 7) (by kernel_rfl) rfl rfl _ _ rfl rfl rfl hpb (fun W' hbx => trivial) ?_
        intro X2 hbx hsz hkx hqb hS1
        replace hqa := (hkx _ HPN2.out).trans hqa
        replace hb9 := hbx _ _ (by omega) hb9
        have HTA8 := Lib.hid (HTA9.out.mono (fun _ h => h) (fun b h => hkx b (by have := HPL.out.2; have : W2.heap.size ≤ b := h; omega)))
        have HTB8 := Lib.hid (HTB9.out.mono (fun _ h => h) (fun b h => hkx b (by have := HPL.out.2; have : W2.heap.size ≤ b := h; omega)))
        clear HTA9 HTB9 hbx hsz hkx hS1 hpb
        try simp only [Zy]
        refine wpAnyH_done (by kernel_rfl) ?_ _
        try simp only [put_noneA]
        go_wp2_with fail
        go_meet
        exact ⟨_, _, _, _, _, _, _, _, _, _, _, _, HTA8, HTB8, hb9, hqa, hqb⟩
      · refine sh_val (i := 4) rfl rfl (ex_row rfl (f4 hp2)) trivial ?_; try simp only [Zq]
        refine ha_call (i := 2) (by kernel_rfl) rfl rfl (fun K hK => ?_)
        go_simp; refine ⟨_, _, ⟨rfl, rfl⟩, hK _ _ ⟨_, HCA.out _ (Below.refl _ _).drew, ?_⟩⟩; clear hK K; rintro e w7 ⟨row7, rfl, hta7, hb7⟩; refine ⟨_, rfl, trivial, ?_⟩
        obtain ⟨k7, s7, n7, A7, l7, c7, ts7, hu7, rfl, -⟩ := hta7.parts
        have HTA7 := Lib.hid hta7
        replace hb7 := ((Below.refl _ _).drew).trans (hb7.mono (Nat.le_refl _))
        clear hta7 hu7
        try simp only [Zq]
        refine ha_call (i := 5) (by kernel_rfl) rfl rfl (fun K hK => ?_); go_simp; refine ⟨_, _, ⟨rfl, rfl⟩, hK _ _ ⟨_, HCB.out _ hb7, ?_⟩⟩; clear hK K; rintro e w8 ⟨row8, rfl, hta8, hb8⟩; refine ⟨_, rfl, trivial, ?_⟩
        obtain ⟨k8, s8, n8, A8, l8, c8, ts8, hu8, rfl, -⟩ := hta8.parts
        have hs7 := hb7.size
        have HTA8 := Lib.hid ((HTA7.out.old hb8).weak (D' := fun b => W2.heap.size ≤ b) fun b h => h)
        have HTB8 := Lib.hid (hta8.weak (D' := fun b => W2.heap.size ≤ b) fun b (h : w7.heap.size ≤ b) => by omega)
        have hb9 := hb7.trans (hb8.mono hb7.size)
        clear hta8 hu8 hb7 hb8 HTA7 hs7
        try simp only [Zq]
        have hpa := below_look hb9 hp
        have hpb := below_look hb9 hp2
        replace hb9 := hb.trans (hb9.mono hb.size)
        refine ha_put (i := 6) (by kernel_rfl) rfl rfl _ _ rfl rfl rfl hpa (fun W' hbx => trivial) ?_
        intro X1 hbx hsz hkx hqa hS1
        replace hpb := (hkx _ HPN.out).trans hpb
        replace hb9 := hbx _ _ (by omega) hb9
        have HTA9 := Lib.hid (HTA8.out.mono (fun _ h => h) (fun b h => hkx b (by have := HPL.out.1; have : W2.heap.size ≤ b := h; omega)))
        have HTB9 := Lib.hid (HTB8.out.mono (fun _ h => h) (fun b h => hkx b (by have := HPL.out.1; have : W2.heap.size ≤ b := h; omega)))
        clear HTA8 HTB8 hbx hsz hkx hS1 hpa
        try simp only [Zy]
        refine ha_put (i := 7) (by kernel_rfl) rfl rfl _ _ rfl rfl rfl hpb (fun W' hbx => trivial) ?_
        intro X2 hbx hsz hkx hqb hS1
        replace hqa := (hkx _ HPN2.out).trans hqa
        replace hb9 := hbx _ _ (by omega) hb9
        have HTA8 := Lib.hid (HTA9.out.mono (fun _ h => h) (fun b h => hkx b (by have := HPL.out.2; have : W2.heap.size ≤ b := h; omega)))
        have HTB8 := Lib.hid (HTB9.out.mono (fun _ h => h) (fun b h => hkx b (by have := HPL.out.2; have : W2.heap.size ≤ b := h; omega)))
        clear HTA9 HTB9 hbx hsz hkx hS1 hpb
        try simp only [Zy]
        refine wpAnyH_done (by kernel_rfl) ?_ _
        try simp only [put_noneA]
        go_wp2_with fail
        go_meet
        exact ⟨_, _, _, _, _, _, _, _, _, _, _, _, HTA8, HTB8, hb9, hqa, hqb⟩
    · refine sh_val (i := 4) rfl rfl (ex_row rfl (f4 hp2)) trivial ?_; try simp only [Zq]
      refine ha_do (i := 1) (by kernel_rfl) rfl rfl (ex_row rfl (f4 hp)) trivial ?_; try simp only [Zq]
      refine ha_call (i := 2) (by kernel_rfl) rfl rfl (fun K hK => ?_)
      go_simp; refine ⟨_, _, ⟨rfl, rfl⟩, hK _ _ ⟨_, HCA.out _ (Below.refl _ _).drew, ?_⟩⟩; clear hK K; rintro e w7 ⟨row7, rfl, hta7, hb7⟩; refine ⟨_, rfl, trivial, ?_⟩
      obtain ⟨k7, s7, n7, A7, l7, c7, ts7, hu7, rfl, -⟩ := hta7.parts
      have HTA7 := Lib.hid hta7
      replace hb7 := ((Below.refl _ _).drew).trans (hb7.mono (Nat.le_refl _))
      clear hta7 hu7
      try simp only [Zq]
      refine ha_call (i := 5) (by kernel_rfl) rfl rfl (fun K hK => ?_); go_simp; refine ⟨_, _, ⟨rfl, rfl⟩, hK _ _ ⟨_, HCB.out _ hb7, ?_⟩⟩; clear hK K; rintro e w8 ⟨row8, rfl, hta8, hb8⟩; refine ⟨_, rfl, trivial, ?_⟩
      obtain ⟨k8, s8, n8, A8, l8, c8, ts8, hu8, rfl, -⟩ := hta8.parts
      have hs7 := hb7.size
      have HTA8 := Lib.hid ((HTA7.out.old hb8).weak (D' := fun b => W2.heap.size ≤ b) fun b h => h)
      have HTB8 := Lib.hid (hta8.weak (D' := fun b => W2.heap.size ≤ b) fun b (h : w7.heap.size ≤ b) => by omega)
      have hb9 := hb7.trans (hb8.mono hb7.size)
      clear hta8 hu8 hb7 hb8 HTA7 hs7
      try simp only [Zq]
      have hpa := below_look hb9 hp
      have hpb := below_look hb9 hp2
      replace hb9 := hb.trans (hb9.mono hb.size)
      refine ha_put (i := 6) (by kernel_rfl) rfl rfl _ _ rfl rfl rfl hpa (fun W' hbx => trivial) ?_
      intro X1 hbx hsz hkx hqa hS1
      replace hpb := (hkx _ HPN.out).trans hpb
      replace hb9 := hbx _ _ (by omega) hb9
      have HTA9 := Lib.hid (HTA8.out.mono (fun _ h => h) (fun b h => hkx b (by have := HPL.out.1; have : W2.heap.size ≤ b := h; omega)))
      have HTB9 := Lib.hid (HTB8.out.mono (fun _ h => h) (fun b h => hkx b (by have := HPL.out.1; have : W2.heap.size ≤ b := h; omega)))
      clear HTA8 HTB8 hbx hsz hkx hS1 hpa
      try simp only [Zy]
      refine ha_put (i := 7) (by kernel_rfl) rfl rfl _ _ rfl rfl rfl hpb (fun W' hbx => trivial) ?_
      intro X2 hbx hsz hkx hqb hS1
      replace hqa := (hkx _ HPN2.out).trans hqa
      replace hb9 := hbx _ _ (by omega) hb9
      have HTA8 := Lib.hid (HTA9.out.mono (fun _ h => h) (fun b h => hkx b (by have := HPL.out.2; have : W2.heap.size ≤ b := h; omega)))
      have HTB8 := Lib.hid (HTB9.out.mono (fun _ h => h) (fun b h => hkx b (by have := HPL.out.2; have : W2.heap.size ≤ b := h; omega)))
      clear HTA9 HTB9 hbx hsz hkx hS1 hpb
      try simp only [Zy]
      refine wpAnyH_done (by kernel_rfl) ?_ _
      try simp only [put_noneA]
      go_wp2_with fail
      go_meet
      exact ⟨_, _, _, _, _, _, _, _, _, _, _, _, HTA8, HTB8, hb9, hqa, hqb⟩
  case rest =>
    clear hb hp hp2 HCA HCB
    obtain ⟨k7, s7, n7, A7, l7, c7, k8, s8, n8, A8, l8, c8, HTX, HTY, hb, hp, hp2⟩ := hcut
    have HTX2 := Lib.hid (HTX.out.weak (D' := fun b => b ≠ q) fun b (h : W2.heap.size ≤ b) => by have := HQL.out; have := HWZ.out; omega)
    have HTY2 := Lib.hid (HTY.out.weak (D' := fun b => b ≠ q) fun b (h : W2.heap.size ≤ b) => by have := HQL.out; have := HWZ.out; omega)
    obtain ⟨tx, hxn, htx⟩ := HTX2.out.inv
    obtain ⟨ty, hyn, hty⟩ := HTY2.out.inv
    have HXN := Lib.hid hxn
    have HYN := Lib.hid hyn
    have HUX := Lib.hid htx
    have HUY := Lib.hid hty
    have HFX : Hid (FineV m x) := Lib.hid (by rw [HX.out]; exact fine_app HG.out.len HG.out.fine a HFA.out)
    have HFY : Hid (FineV m y) := Lib.hid (by rw [HY.out]; exact fine_app HG.out.len HG.out.fine b HFB.out)
    have HIX : Hid (applyTy sol x = x) := Lib.hid (by rw [HX.out]; exact app_app HG.out a HFA.out)
    have HIY : Hid (applyTy sol y = y) := Lib.hid (by rw [HY.out]; exact app_app HG.out b HFB.out)
    have HNX : Hid (x.nodes ≤ 1600) := Lib.hid (by rw [HX.out]; exact HSA.out.now HG.out)
    have HNY : Hid (y.nodes ≤ 1600) := Lib.hid (by rw [HY.out]; exact HSB.out.now HG.out)
    clear hxn hyn htx hty HTX HTY
    obtain ⟨sm, hsm⟩ : ∃ sm, sm = sameTy x y := ⟨_, rfl⟩
    have he := Equal_any x y _ _ _ _ _ HTX2.out HTY2.out
    rw [← hsm] at he
    rw [same_is] at hsm
    have HSM := Lib.hid hsm
    have HC := Lib.hid he
    clear he hsm
    go_upto_region 2 with (fail)
    apply wp_region_lit
    (first | ((with_reducible apply wl_oneG); exact rfl; exact rfl; first | exact f0 (by with_reducible assumption) | exact f1 (by with_reducible assumption) | exact f2 (by with_reducible assumption) | exact f3 (by with_reducible assumption) | with_reducible assumption | exact g22 (by with_reducible assumption) | exact g25 (by with_reducible assumption)) | ((with_reducible apply wl_rowG); exact rfl; exact rfl; first | with_reducible assumption | exact RowK.now (by with_reducible assumption) | exact f4 (by with_reducible assumption)))
    (first | ((with_reducible apply wl_oneG); exact rfl; exact rfl; first | exact f0 (by with_reducible assumption) | exact f1 (by with_reducible assumption) | exact f2 (by with_reducible assumption) | exact f3 (by with_reducible assumption) | with_reducible assumption | exact g22 (by with_reducible assumption) | exact g25 (by with_reducible assumption)) | ((with_reducible apply wl_rowG); exact rfl; exact rfl; first | with_reducible assumption | exact RowK.now (by with_reducible assumption) | exact f4 (by with_reducible assumption)))
    (with_reducible refine wl_ck ?_ ?_); exact rfl; intro K hK; go_simp; refine ⟨_, _, ⟨rfl, rfl⟩, hK _ _ ⟨_, HC.out, ?_⟩⟩; clear hK K; rintro e w7 ⟨rfl, hb7⟩; refine ⟨_, rfl, ?_⟩; simp only [Zq]
    have HUX7 := Lib.hid (HUX.out.old hb7)
    have HUY7 := Lib.hid (HUY.out.old hb7)
    have HTX7 := Lib.hid (HTX2.out.old hb7)
    have HTY7 := Lib.hid (HTY2.out.old hb7)
    replace hp := below_look hb7 hp; replace hp2 := below_look hb7 hp2; replace hb := hb.trans (hb7.mono hb.size); clear hb7
    (with_reducible refine wl_k ?_ ?_); exact rfl; intro K hK; go_simp; refine hK _ ?_; clear hK K
    clear HC HUX HUY HTX2 HTY2
    have HS7 := Lib.hid (HS.out.old hb)
    cases sm with
    | true =>
      have HXY : Hid (x = y) := Lib.hid (by simpa using HSM.out.symm)
      clear hp hp2
      go_upto_region 3 with (fail)
      apply wp_region_lit
      (with_reducible refine wl_k ?_ ?_); exact rfl; intro K hK; go_simp; refine hK _ ?_; clear hK K
      go_wp2_with fail
      go_ret
      exact BPost.yes (steps_same HST.out (by rw [← HX.out, ← HY.out, HXY.out])) (Keep.of hb) HS7.out HK.out
    | false =>
      have HXY : Hid (x ≠ y) := Lib.hid (by simpa using HSM.out.symm)
      by_cases h7 : k7 = 12
      · obtain ⟨v, rfl, hvm, hv⟩ := var_of HFX.out HXN.out h7
        have e7 : (k7 == 12) = true := beq_iff_eq.2 h7
        have HVM := Lib.hid hvm
        have HV := Lib.hid hv
        clear h7 hvm hv
        by_cases h8 : k8 = 12
        · obtain ⟨u, rfl, hum, hu⟩ := var_of HFY.out HYN.out h8
          have e8 : (k8 == 12) = true := beq_iff_eq.2 h8
          have HUM := Lib.hid hum
          have HU := Lib.hid hu
          have HNE : Hid (v ≠ u) := Lib.hid (fun e => HXY.out (by rw [HV.out, HU.out, e]))
          clear h8 hum hu
          go_upto_region 4 with (fail)
          apply wp_region_lit
          (with_reducible refine wl_k ?_ ?_); exact rfl; intro K hK; go_simp; refine hK _ ?_; clear hK K
          (first | ((with_reducible apply wl_oneG); exact rfl; exact rfl; first | exact f0 (by with_reducible assumption) | exact f1 (by with_reducible assumption) | exact f2 (by with_reducible assumption) | exact f3 (by with_reducible assumption) | with_reducible assumption | exact g22 (by with_reducible assumption) | exact g25 (by with_reducible assumption)) | ((with_reducible apply wl_rowG); exact rfl; exact rfl; first | with_reducible assumption | exact RowK.now (by with_reducible assumption) | exact f4 (by with_reducible assumption)))
          (with_reducible refine wl_k ?_ ?_); exact rfl; intro K hK; go_simp; refine hK _ ?_; clear hK K
          (with_reducible refine wl_k ?_ ?_); exact rfl; intro K hK; go_simp; refine hK _ ?_; clear hK K
          (with_reducible refine wl_k ?_ ?_); exact rfl; intro K hK; go_simp; refine hK _ ?_; clear hK K
          (first | ((with_reducible apply wl_oneG); exact rfl; exact rfl; first | exact f0 (by with_reducible assumption) | exact f1 (by with_reducible assumption) | exact f2 (by with_reducible assumption) | exact f3 (by with_reducible assumption) | with_reducible assumption | exact g22 (by with_reducible assumption) | exact g25 (by with_reducible assumption)) | ((with_reducible apply wl_rowG); exact rfl; exact rfl; first | with_reducible assumption | exact RowK.now (by with_reducible assumption) | exact f4 (by with_reducible assumption)))
          (with_reducible refine wl_k ?_ ?_); exact rfl; intro K hK; go_simp; refine hK _ ?_; clear hK K
          (with_reducible refine wl_k ?_ ?_); exact rfl; intro K hK; go_simp; refine hK _ ?_; clear hK K
          (with_reducible refine wl_k ?_ ?_); exact rfl; intro K hK; go_simp; refine hK _ ?_; clear hK K
          clear e7 e8
          by_cases hlt : u < v
          · have hltI : (u : Int) < (v : Int) := by omega
            go_upto_region 5 with (fail)
            apply wp_region_lit
            (with_reducible refine wl_k ?_ ?_); exact rfl; intro K hK; go_simp; refine hK _ ?_; clear hK K
            (first | ((with_reducible apply wl_oneG); exact rfl; exact rfl; first | exact f0 (by with_reducible assumption) | exact f1 (by with_reducible assumption) | exact f2 (by with_reducible assumption) | exact f3 (by with_reducible assumption) | with_reducible assumption | exact g22 (by with_reducible assumption) | exact g25 (by with_reducible assumption)) | ((with_reducible apply wl_rowG); exact rfl; exact rfl; first | with_reducible assumption | exact RowK.now (by with_reducible assumption) | exact f4 (by with_reducible assumption)))
            (with_reducible refine wl_k ?_ ?_); exact rfl; intro K hK; go_simp; refine hK _ ?_; clear hK K
            (first | ((with_reducible apply wl_oneG); exact rfl; exact rfl; first | exact f0 (by with_reducible assumption) | exact f1 (by with_reducible assumption) | exact f2 (by with_reducible assumption) | exact f3 (by with_reducible assumption) | with_reducible assumption | exact g22 (by with_reducible assumption) | exact g25 (by with_reducible assumption)) | ((with_reducible apply wl_rowG); exact rfl; exact rfl; first | with_reducible assumption | exact RowK.now (by with_reducible assumption) | exact f4 (by with_reducible assumption)))
            (with_reducible refine wl_k ?_ ?_); exact rfl; intro K hK; go_simp; refine hK _ ?_; clear hK K
            have HC := Lib.hid ((bind_any HK.out HG.out HVM.out HFY.out (fun e => HXY.out (by rw [HV.out, e])) HIY.out (by rw [← HV.out]; exact HIX.out) (by have := HNY.out; omega) ps q es clock w7 HS7.out HPQ.out _ HTY7.out).mono fun e w' h => h.ret)
            have HMM : Hid (bindP sol (max v u) (varT (min v u)) = bindP sol v y) := Lib.hid (by rw [show max v u = v by omega, show min v u = u by omega, ← HU.out])
            clear hlt hltI
            have HE2 := Lib.hid ((steps_less HST.out (step_v2 (HX.out ▸ HV.out) (HY.out ▸ HU.out) HNE.out)).trans (HMM.out))
            go_upto_region 6 with (fail)
            apply wp_region_lit
            (with_reducible refine wl_k ?_ ?_); exact rfl; intro K hK; go_simp; refine hK _ ?_; clear hK K
            (with_reducible refine wl_k ?_ ?_); exact rfl; intro K hK; go_simp; refine hK _ ?_; clear hK K
            (first | ((with_reducible apply wl_oneG); exact rfl; exact rfl; first | exact f0 (by with_reducible assumption) | exact f1 (by with_reducible assumption) | exact f2 (by with_reducible assumption) | exact f3 (by with_reducible assumption) | with_reducible assumption | exact g22 (by with_reducible assumption) | exact g25 (by with_reducible assumption)) | ((with_reducible apply wl_rowG); exact rfl; exact rfl; first | with_reducible assumption | exact RowK.now (by with_reducible assumption) | exact f4 (by with_reducible assumption)))
            (first | ((with_reducible apply wl_oneG); exact rfl; exact rfl; first | exact f0 (by with_reducible assumption) | exact f1 (by with_reducible assumption) | exact f2 (by with_reducible assumption) | exact f3 (by with_reducible assumption) | with_reducible assumption | exact g22 (by with_reducible assumption) | exact g25 (by with_reducible assumption)) | ((with_reducible apply wl_rowG); exact rfl; exact rfl; first | with_reducible assumption | exact RowK.now (by with_reducible assumption) | exact f4 (by with_reducible assumption)))
            (with_reducible refine wl_ck ?_ ?_); exact rfl; intro K hK; go_simp; refine ⟨_, _, ⟨rfl, rfl⟩, hK _ _ ⟨_, HC.out, ?_⟩⟩; clear hK K; rintro e w9 ⟨cr, rfl, hbp⟩; refine ⟨_, rfl, ?_⟩; simp only [Zq]
            have HBP := Lib.hid hbp
            clear hbp hp hp2
            (with_reducible refine wl_k ?_ ?_); exact rfl; intro K hK; go_simp; refine hK _ ?_; clear hK K
            go_wp2_with fail
            go_ret
            rw [HE2.out]
            exact BPost.from (Keep.of hb) HBP.out
          · have hltI : ¬ (u : Int) < (v : Int) := by omega
            go_upto_region 5 with (fail)
            apply wp_region_lit
            (with_reducible refine wl_k ?_ ?_); exact rfl; intro K hK; go_simp; refine hK _ ?_; clear hK K
            (first | ((with_reducible apply wl_oneG); exact rfl; exact rfl; first | exact f0 (by with_reducible assumption) | exact f1 (by with_reducible assumption) | exact f2 (by with_reducible assumption) | exact f3 (by with_reducible assumption) | with_reducible assumption | exact g22 (by with_reducible assumption) | exact g25 (by with_reducible assumption)) | ((with_reducible apply wl_rowG); exact rfl; exact rfl; first | with_reducible assumption | exact RowK.now (by with_reducible assumption) | exact f4 (by with_reducible assumption)))
            (with_reducible refine wl_k ?_ ?_); exact rfl; intro K hK; go_simp; refine hK _ ?_; clear hK K
            (first | ((with_reducible apply wl_oneG); exact rfl; exact rfl; first | exact f0 (by with_reducible assumption) | exact f1 (by with_reducible assumption) | exact f2 (by with_reducible assumption) | exact f3 (by with_reducible assumption) | with_reducible assumption | exact g22 (by with_reducible assumption) | exact g25 (by with_reducible assumption)) | ((with_reducible apply wl_rowG); exact rfl; exact rfl; first | with_reducible assumption | exact RowK.now (by with_reducible assumption) | exact f4 (by with_reducible assumption)))
            (with_reducible refine wl_k ?_ ?_); exact rfl; intro K hK; go_simp; refine hK _ ?_; clear hK K
            have HC := Lib.hid ((bind_any HK.out HG.out HUM.out HFX.out (fun e => HXY.out (by rw [HU.out, e])) HIX.out (by rw [← HU.out]; exact HIY.out) (by have := HNX.out; omega) ps q es clock w7 HS7.out HPQ.out _ HTX7.out).mono fun e w' h => h.ret)
            have HMM : Hid (bindP sol (max v u) (varT (min v u)) = bindP sol u x) := Lib.hid (by have := HNE.out; rw [show max v u = u by omega, show min v u = v by omega, ← HV.out])
            clear hlt hltI
            have HE2 := Lib.hid ((steps_less HST.out (step_v2 (HX.out ▸ HV.out) (HY.out ▸ HU.out) HNE.out)).trans (HMM.out))
            go_upto_region 7 with (fail)
            apply wp_region_lit
            (with_reducible refine wl_k ?_ ?_); exact rfl; intro K hK; go_simp; refine hK _ ?_; clear hK K
            (with_reducible refine wl_k ?_ ?_); exact rfl; intro K hK; go_simp; refine hK _ ?_; clear hK K
            (first | ((with_reducible apply wl_oneG); exact rfl; exact rfl; first | exact f0 (by with_reducible assumption) | exact f1 (by with_reducible assumption) | exact f2 (by with_reducible assumption) | exact f3 (by with_reducible assumption) | with_reducible assumption | exact g22 (by with_reducible assumption) | exact g25 (by with_reducible assumption)) | ((with_reducible apply wl_rowG); exact rfl; exact rfl; first | with_reducible assumption | exact RowK.now (by with_reducible assumption) | exact f4 (by with_reducible assumption)))
            (first | ((with_reducible apply wl_oneG); exact rfl; exact rfl; first | exact f0 (by with_reducible assumption) | exact f1 (by with_reducible assumption) | exact f2 (by with_reducible assumption) | exact f3 (by with_reducible assumption) | with_reducible assumption | exact g22 (by with_reducible assumption) | exact g25 (by with_reducible assumption)) | ((with_reducible apply wl_rowG); exact rfl; exact rfl; first | with_reducible assumption | exact RowK.now (by with_reducible assumption) | exact f4 (by with_reducible assumption)))
            (with_reducible refine wl_ck ?_ ?_); exact rfl; intro K hK; go_simp; refine ⟨_, _, ⟨rfl, rfl⟩, hK _ _ ⟨_, HC.out, ?_⟩⟩; clear hK K; rintro e w9 ⟨cr, rfl, hbp⟩; refine ⟨_, rfl, ?_⟩; simp only [Zq]
            have HBP := Lib.hid hbp
            clear hbp hp hp2
            (with_reducible refine wl_k ?_ ?_); exact rfl; intro K hK; go_simp; refine hK _ ?_; clear hK K
            go_wp2_with fail
            go_ret
            rw [HE2.out]
            exact BPost.from (Keep.of hb) HBP.out
        · have e8 : (k8 == 12) = false := beq_eq_false_iff_ne.2 h8
          have HK8 : Hid ((applyTy sol b).kind ≠ 12) := Lib.hid (by rw [← HY.out, HYN.out]; exact h8)
          clear h8
          go_upto_region 4 with (fail)
          apply wp_region_lit
          (with_reducible refine wl_k ?_ ?_); exact rfl; intro K hK; go_simp; refine hK _ ?_; clear hK K
          (first | ((with_reducible apply wl_oneG); exact rfl; exact rfl; first | exact f0 (by with_reducible assumption) | exact f1 (by with_reducible assumption) | exact f2 (by with_reducible assumption) | exact f3 (by with_reducible assumption) | with_reducible assumption | exact g22 (by with_reducible assumption) | exact g25 (by with_reducible assumption)) | ((with_reducible apply wl_rowG); exact rfl; exact rfl; first | with_reducible assumption | exact RowK.now (by with_reducible assumption) | exact f4 (by with_reducible assumption)))
          (with_reducible refine wl_k ?_ ?_); exact rfl; intro K hK; go_simp; refine hK _ ?_; clear hK K
          (with_reducible refine wl_k ?_ ?_); exact rfl; intro K hK; go_simp; refine hK _ ?_; clear hK K
          (with_reducible refine wl_k ?_ ?_); exact rfl; intro K hK; go_simp; refine hK _ ?_; clear hK K
          (first | ((with_reducible apply wl_oneG); exact rfl; exact rfl; first | exact f0 (by with_reducible assumption) | exact f1 (by with_reducible assumption) | exact f2 (by with_reducible assumption) | exact f3 (by with_reducible assumption) | with_reducible assumption | exact g22 (by with_reducible assumption) | exact g25 (by with_reducible assumption)) | ((with_reducible apply wl_rowG); exact rfl; exact rfl; first | with_reducible assumption | exact RowK.now (by with_reducible assumption) | exact f4 (by with_reducible assumption)))
          (with_reducible refine wl_k ?_ ?_); exact rfl; intro K hK; go_simp; refine hK _ ?_; clear hK K
          (with_reducible refine wl_k ?_ ?_); exact rfl; intro K hK; go_simp; refine hK _ ?_; clear hK K
          (with_reducible refine wl_k ?_ ?_); exact rfl; intro K hK; go_simp; refine hK _ ?_; clear hK K
          go_upto_region 8 with (fail)
          apply wp_region_lit
          (with_reducible refine wl_k ?_ ?_); exact rfl; intro K hK; go_simp; refine hK _ ?_; clear hK K
          (first | ((with_reducible apply wl_oneG); exact rfl; exact rfl; first | exact f0 (by with_reducible assumption) | exact f1 (by with_reducible assumption) | exact f2 (by with_reducible assumption) | exact f3 (by with_reducible assumption) | with_reducible assumption | exact g22 (by with_reducible assumption) | exact g25 (by with_reducible assumption)) | ((with_reducible apply wl_rowG); exact rfl; exact rfl; first | with_reducible assumption | exact RowK.now (by with_reducible assumption) | exact f4 (by with_reducible assumption)))
          (with_reducible refine wl_k ?_ ?_); exact rfl; intro K hK; go_simp; refine hK _ ?_; clear hK K
          (with_reducible refine wl_k ?_ ?_); exact rfl; intro K hK; go_simp; refine hK _ ?_; clear hK K
          clear e7 e8
          have HC := Lib.hid ((bind_any HK.out HG.out HVM.out HFY.out (fun e => HXY.out (by rw [HV.out, e])) HIY.out (by rw [← HV.out]; exact HIX.out) (by have := HNY.out; omega) ps q es clock w7 HS7.out HPQ.out _ HTY7.out).mono fun e w' h => h.ret)
          have HMM : Hid (bindP sol v (applyTy sol b) = bindP sol v y) := Lib.hid (by rw [HY.out])
          have HE2 := Lib.hid ((steps_less HST.out (step_va (HX.out ▸ HV.out) HK8.out)).trans (HMM.out))
          go_upto_region 9 with (fail)
          apply wp_region_lit
          (with_reducible refine wl_k ?_ ?_); exact rfl; intro K hK; go_simp; refine hK _ ?_; clear hK K
          (with_reducible refine wl_k ?_ ?_); exact rfl; intro K hK; go_simp; refine hK _ ?_; clear hK K
          (first | ((with_reducible apply wl_oneG); exact rfl; exact rfl; first | exact f0 (by with_reducible assumption) | exact f1 (by with_reducible assumption) | exact f2 (by with_reducible assumption) | exact f3 (by with_reducible assumption) | with_reducible assumption | exact g22 (by with_reducible assumption) | exact g25 (by with_reducible assumption)) | ((with_reducible apply wl_rowG); exact rfl; exact rfl; first | with_reducible assumption | exact RowK.now (by with_reducible assumption) | exact f4 (by with_reducible assumption)))
          (first | ((with_reducible apply wl_oneG); exact rfl; exact rfl; first | exact f0 (by with_reducible assumption) | exact f1 (by with_reducible assumption) | exact f2 (by with_reducible assumption) | exact f3 (by with_reducible assumption) | with_reducible assumption | exact g22 (by with_reducible assumption) | exact g25 (by with_reducible assumption)) | ((with_reducible apply wl_rowG); exact rfl; exact rfl; first | with_reducible assumption | exact RowK.now (by with_reducible assumption) | exact f4 (by with_reducible assumption)))
          (with_reducible refine wl_ck ?_ ?_); exact rfl; intro K hK; go_simp; refine ⟨_, _, ⟨rfl, rfl⟩, hK _ _ ⟨_, HC.out, ?_⟩⟩; clear hK K; rintro e w9 ⟨cr, rfl, hbp⟩; refine ⟨_, rfl, ?_⟩; simp only [Zq]
          have HBP := Lib.hid hbp
          clear hbp hp hp2
          (with_reducible refine wl_k ?_ ?_); exact rfl; intro K hK; go_simp; refine hK _ ?_; clear hK K
          go_wp2_with fail
          go_ret
          rw [HE2.out]
          exact BPost.from (Keep.of hb) HBP.out
      · have e7 : (k7 == 12) = false := beq_eq_false_iff_ne.2 h7
        have HK7 : Hid ((applyTy sol a).kind ≠ 12) := Lib.hid (by rw [← HX.out, HXN.out]; exact h7)
        have HN7 := Lib.hid h7
        clear h7
        go_upto_region 4 with (fail)
        apply wp_region_lit
        (with_reducible refine wl_k ?_ ?_); exact rfl; intro K hK; go_simp; refine hK _ ?_; clear hK K
        (first | ((with_reducible apply wl_oneG); exact rfl; exact rfl; first | exact f0 (by with_reducible assumption) | exact f1 (by with_reducible assumption) | exact f2 (by with_reducible assumption) | exact f3 (by with_reducible assumption) | with_reducible assumption | exact g22 (by with_reducible assumption) | exact g25 (by with_reducible assumption)) | ((with_reducible apply wl_rowG); exact rfl; exact rfl; first | with_reducible assumption | exact RowK.now (by with_reducible assumption) | exact f4 (by with_reducible assumption)))
        (with_reducible refine wl_k ?_ ?_); exact rfl; intro K hK; go_simp; refine hK _ ?_; clear hK K
        (with_reducible refine wl_k ?_ ?_); exact rfl; intro K hK; go_simp; refine hK _ ?_; clear hK K
        (first | ((with_reducible refine wl_skipU ?_ ?_ ?_); exact rfl; exact rfl) | ((with_reducible refine wl_skip ?_ ?_); exact rfl; simp only [Zq]))
        (first | ((with_reducible refine wl_skipU ?_ ?_ ?_); exact rfl; exact rfl) | ((with_reducible refine wl_skip ?_ ?_); exact rfl; simp only [Zq]))
        (first | ((with_reducible refine wl_skipU ?_ ?_ ?_); exact rfl; exact rfl) | ((with_reducible refine wl_skip ?_ ?_); exact rfl; simp only [Zq]))
        (with_reducible refine wl_k ?_ ?_); exact rfl; intro K hK; go_simp; refine hK _ ?_; clear hK K
        (with_reducible refine wl_k ?_ ?_); exact rfl; intro K hK; go_simp; refine hK _ ?_; clear hK K
        go_upto_region 8 with (fail)
        apply wp_region_lit
        (with_reducible refine wl_k ?_ ?_); exact rfl; intro K hK; go_simp; refine hK _ ?_; clear hK K
        (first | ((with_reducible apply wl_oneG); exact rfl; exact rfl; first | exact f0 (by with_reducible assumption) | exact f1 (by with_reducible assumption) | exact f2 (by with_reducible assumption) | exact f3 (by with_reducible assumption) | with_reducible assumption | exact g22 (by with_reducible assumption) | exact g25 (by with_reducible assumption)) | ((with_reducible apply wl_rowG); exact rfl; exact rfl; first | with_reducible assumption | exact RowK.now (by with_reducible assumption) | exact f4 (by with_reducible assumption)))
        (with_reducible refine wl_k ?_ ?_); exact rfl; intro K hK; go_simp; refine hK _ ?_; clear hK K
        (with_reducible refine wl_k ?_ ?_); exact rfl; intro K hK; go_simp; refine hK _ ?_; clear hK K
        clear e7
        by_cases h8 : k8 = 12
        · obtain ⟨u, rfl, hum, hu⟩ := var_of HFY.out HYN.out h8
          have e8 : (k8 == 12) = true := beq_iff_eq.2 h8
          have HUM := Lib.hid hum
          have HU := Lib.hid hu
          clear h8 hum hu
          go_upto_region 10 with (fail)
          apply wp_region_lit
          (with_reducible refine wl_k ?_ ?_); exact rfl; intro K hK; go_simp; refine hK _ ?_; clear hK K
          (first | ((with_reducible apply wl_oneG); exact rfl; exact rfl; first | exact f0 (by with_reducible assumption) | exact f1 (by with_reducible assumption) | exact f2 (by with_reducible assumption) | exact f3 (by with_reducible assumption) | with_reducible assumption | exact g22 (by with_reducible assumption) | exact g25 (by with_reducible assumption)) | ((with_reducible apply wl_rowG); exact rfl; exact rfl; first | with_reducible assumption | exact RowK.now (by with_reducible assumption) | exact f4 (by with_reducible assumption)))
          (with_reducible refine wl_k ?_ ?_); exact rfl; intro K hK; go_simp; refine hK _ ?_; clear hK K
          (with_reducible refine wl_k ?_ ?_); exact rfl; intro K hK; go_simp; refine hK _ ?_; clear hK K
          clear e8
          have HC := Lib.hid ((bind_any HK.out HG.out HUM.out HFX.out (fun e => HXY.out (by rw [HU.out, e])) HIX.out (by rw [← HU.out]; exact HIY.out) (by have := HNX.out; omega) ps q es clock w7 HS7.out HPQ.out _ HTX7.out).mono fun e w' h => h.ret)
          have HMM : Hid (bindP sol u (applyTy sol a) = bindP sol u x) := Lib.hid (by rw [HX.out])
          have HE2 := Lib.hid ((steps_less HST.out (step_vb HK7.out (HY.out ▸ HU.out))).trans (HMM.out))
          go_upto_region 11 with (fail)
          apply wp_region_lit
          (with_reducible refine wl_k ?_ ?_); exact rfl; intro K hK; go_simp; refine hK _ ?_; clear hK K
          (with_reducible refine wl_k ?_ ?_); exact rfl; intro K hK; go_simp; refine hK _ ?_; clear hK K
          (first | ((with_reducible apply wl_oneG); exact rfl; exact rfl; first | exact f0 (by with_reducible assumption) | exact f1 (by with_reducible assumption) | exact f2 (by with_reducible assumption) | exact f3 (by with_reducible assumption) | with_reducible assumption | exact g22 (by with_reducible assumption) | exact g25 (by with_reducible assumption)) | ((with_reducible apply wl_rowG); exact rfl; exact rfl; first | with_reducible assumption | exact RowK.now (by with_reducible assumption) | exact f4 (by with_reducible assumption)))
          (first | ((with_reducible apply wl_oneG); exact rfl; exact rfl; first | exact f0 (by with_reducible assumption) | exact f1 (by with_reducible assumption) | exact f2 (by with_reducible assumption) | exact f3 (by with_reducible assumption) | with_reducible assumption | exact g22 (by with_reducible assumption) | exact g25 (by with_reducible assumption)) | ((with_reducible apply wl_rowG); exact rfl; exact rfl; first | with_reducible assumption | exact RowK.now (by with_reducible assumption) | exact f4 (by with_reducible assumption)))
          (with_reducible refine wl_ck ?_ ?_); exact rfl; intro K hK; go_simp; refine ⟨_, _, ⟨rfl, rfl⟩, hK _ _ ⟨_, HC.out, ?_⟩⟩; clear hK K; rintro e w9 ⟨cr, rfl, hbp⟩; refine ⟨_, rfl, ?_⟩; simp only [Zq]
          have HBP := Lib.hid hbp
          clear hbp hp hp2
          (with_reducible refine wl_k ?_ ?_); exact rfl; intro K hK; go_simp; refine hK _ ?_; clear hK K
          go_wp2_with fail
          go_ret
          rw [HE2.out]
          exact BPost.from (Keep.of hb) HBP.out
        · have e8 : (k8 == 12) = false := beq_eq_false_iff_ne.2 h8
          have HN8 := Lib.hid h8
          clear h8
          go_upto_region 10 with (fail)
          apply wp_region_lit
          (with_reducible refine wl_k ?_ ?_); exact rfl; intro K hK; go_simp; refine hK _ ?_; clear hK K
          (first | ((with_reducible apply wl_oneG); exact rfl; exact rfl; first | exact f0 (by with_reducible assumption) | exact f1 (by with_reducible assumption) | exact f2 (by with_reducible assumption) | exact f3 (by with_reducible assumption) | with_reducible assumption | exact g22 (by with_reducible assumption) | exact g25 (by with_reducible assumption)) | ((with_reducible apply wl_rowG); exact rfl; exact rfl; first | with_reducible assumption | exact RowK.now (by with_reducible assumption) | exact f4 (by with_reducible assumption)))
          (with_reducible refine wl_k ?_ ?_); exact rfl; intro K hK; go_simp; refine hK _ ?_; clear hK K
          (with_reducible refine wl_k ?_ ?_); exact rfl; intro K hK; go_simp; refine hK _ ?_; clear hK K
          clear e8
          have HLX := Lib.hid HUX7.out.len
          have HLY := Lib.hid HUY7.out.len
          by_cases h1 : k7 = k8
          · subst h1
            by_cases h2 : s7 = s8
            · subst h2
              by_cases h3 : n7 = n8
              · subst h3
                by_cases h4 : l7 = l8
                · subst h4
                  have HLL : Hid (tx.length = ty.length) := Lib.hid (by rw [HLX.out, HLY.out])
                  obtain ⟨K1, rfl, hst1⟩ := steps_sub HST.out (step_go (HX.out ▸ HXN.out) (HY.out ▸ HYN.out) HN7.out (by rw [← HX.out, ← HY.out]; exact HXY.out) HLL.out)
                  have HST1 : Hid (Steps K1 ((tx.drop 0).zip (ty.drop 0)) sol r) := Lib.hid hst1
                  have HK1 : Hid (K1 < K1 + 1) := Lib.hid (by omega)
                  have HPZ : Hid (p ≠ q ∧ p2 ≠ q) := Lib.hid (by have := HQL.out; have := HPL.out; constructor <;> omega)
                  clear hst1
                  go_upto_region 12 with (fail)
                  apply wp_region_lit
                  (with_reducible refine wl_k ?_ ?_); exact rfl; intro K hK; go_simp; refine hK _ ?_; clear hK K
                  (first | ((with_reducible apply wl_oneG); exact rfl; exact rfl; first | exact f0 (by with_reducible assumption) | exact f1 (by with_reducible assumption) | exact f2 (by with_reducible assumption) | exact f3 (by with_reducible assumption) | with_reducible assumption | exact g22 (by with_reducible assumption) | exact g25 (by with_reducible assumption)) | ((with_reducible apply wl_rowG); exact rfl; exact rfl; first | with_reducible assumption | exact RowK.now (by with_reducible assumption) | exact f4 (by with_reducible assumption)))
                  (with_reducible refine wl_k ?_ ?_); exact rfl; intro K hK; go_simp; refine hK _ ?_; clear hK K
                  (first | ((with_reducible apply wl_oneG); exact rfl; exact rfl; first | exact f0 (by with_reducible assumption) | exact f1 (by with_reducible assumption) | exact f2 (by with_reducible assumption) | exact f3 (by with_reducible assumption) | with_reducible assumption | exact g22 (by with_reducible assumption) | exact g25 (by with_reducible assumption)) | ((with_reducible apply wl_rowG); exact rfl; exact rfl; first | with_reducible assumption | exact RowK.now (by with_reducible assumption) | exact f4 (by with_reducible assumption)))
                  (with_reducible refine wl_k ?_ ?_); exact rfl; intro K hK; go_simp; refine hK _ ?_; clear hK K
                  (with_reducible refine wl_k ?_ ?_); exact rfl; intro K hK; go_simp; refine hK _ ?_; clear hK K
                  (with_reducible refine wl_k ?_ ?_); exact rfl; intro K hK; go_simp; refine hK _ ?_; clear hK K
                  (first | ((with_reducible apply wl_oneG); exact rfl; exact rfl; first | exact f0 (by with_reducible assumption) | exact f1 (by with_reducible assumption) | exact f2 (by with_reducible assumption) | exact f3 (by with_reducible assumption) | with_reducible assumption | exact g22 (by with_reducible assumption) | exact g25 (by with_reducible assumption)) | ((with_reducible apply wl_rowG); exact rfl; exact rfl; first | with_reducible assumption | exact RowK.now (by with_reducible assumption) | exact f4 (by with_reducible assumption)))
                  (with_reducible refine wl_k ?_ ?_); exact rfl; intro K hK; go_simp; refine hK _ ?_; clear hK K
                  (first | ((with_reducible apply wl_oneG); exact rfl; exact rfl; first | exact f0 (by with_reducible assumption) | exact f1 (by with_reducible assumption) | exact f2 (by with_reducible assumption) | exact f3 (by with_reducible assumption) | with_reducible assumption | exact g22 (by with_reducible assumption) | exact g25 (by with_reducible assumption)) | ((with_reducible apply wl_rowG); exact rfl; exact rfl; first | with_reducible assumption | exact RowK.now (by with_reducible assumption) | exact f4 (by with_reducible assumption)))
                  (with_reducible refine wl_k ?_ ?_); exact rfl; intro K hK; go_simp; refine hK _ ?_; clear hK K
                  (with_reducible refine wl_k ?_ ?_); exact rfl; intro K hK; go_simp; refine hK _ ?_; clear hK K
                  (with_reducible refine wl_k ?_ ?_); exact rfl; intro K hK; go_simp; refine hK _ ?_; clear hK K
                  (with_reducible refine wl_k ?_ ?_); exact rfl; intro K hK; go_simp; refine hK _ ?_; clear hK K
                  (first | ((with_reducible apply wl_oneG); exact rfl; exact rfl; first | exact f0 (by with_reducible assumption) | exact f1 (by with_reducible assumption) | exact f2 (by with_reducible assumption) | exact f3 (by with_reducible assumption) | with_reducible assumption | exact g22 (by with_reducible assumption) | exact g25 (by with_reducible assumption)) | ((with_reducible apply wl_rowG); exact rfl; exact rfl; first | with_reducible assumption | exact RowK.now (by with_reducible assumption) | exact f4 (by with_reducible assumption)))
                  (with_reducible refine wl_k ?_ ?_); exact rfl; intro K hK; go_simp; refine hK _ ?_; clear hK K
                  (first | ((with_reducible apply wl_oneG); exact rfl; exact rfl; first | exact f0 (by with_reducible assumption) | exact f1 (by with_reducible assumption) | exact f2 (by with_reducible assumption) | exact f3 (by with_reducible assumption) | with_reducible assumption | exact g22 (by with_reducible assumption) | exact g25 (by with_reducible assumption)) | ((with_reducible apply wl_rowG); exact rfl; exact rfl; first | with_reducible assumption | exact RowK.now (by with_reducible assumption) | exact f4 (by with_reducible assumption)))
                  (with_reducible refine wl_k ?_ ?_); exact rfl; intro K hK; go_simp; refine hK _ ?_; clear hK K
                  (with_reducible refine wl_k ?_ ?_); exact rfl; intro K hK; go_simp; refine hK _ ?_; clear hK K
                  (with_reducible refine wl_k ?_ ?_); exact rfl; intro K hK; go_simp; refine hK _ ?_; clear hK K
                  (with_reducible refine wl_k ?_ ?_); exact rfl; intro K hK; go_simp; refine hK _ ?_; clear hK K
                  (first | ((with_reducible apply wl_oneG); exact rfl; exact rfl; first | exact f0 (by with_reducible assumption) | exact f1 (by with_reducible assumption) | exact f2 (by with_reducible assumption) | exact f3 (by with_reducible assumption) | with_reducible assumption | exact g22 (by with_reducible assumption) | exact g25 (by with_reducible assumption)) | ((with_reducible apply wl_rowG); exact rfl; exact rfl; first | with_reducible assumption | exact RowK.now (by with_reducible assumption) | exact f4 (by with_reducible assumption)))
                  (with_reducible refine wl_k ?_ ?_); exact rfl; intro K hK; go_simp; refine hK _ ?_; clear hK K
                  (with_reducible refine wl_k ?_ ?_); exact rfl; intro K hK; go_simp; refine hK _ ?_; clear hK K
                  (first | ((with_reducible apply wl_oneG); exact rfl; exact rfl; first | exact f0 (by with_reducible assumption) | exact f1 (by with_reducible assumption) | exact f2 (by with_reducible assumption) | exact f3 (by with_reducible assumption) | with_reducible assumption | exact g22 (by with_reducible assumption) | exact g25 (by with_reducible assumption)) | ((with_reducible apply wl_rowG); exact rfl; exact rfl; first | with_reducible assumption | exact RowK.now (by with_reducible assumption) | exact f4 (by with_reducible assumption)))
                  (with_reducible refine wl_k ?_ ?_); exact rfl; intro K hK; go_simp; refine hK _ ?_; clear hK K
                  (with_reducible refine wl_k ?_ ?_); exact rfl; intro K hK; go_simp; refine hK _ ?_; clear hK K
                  (with_reducible refine wl_k ?_ ?_); exact rfl; intro K hK; go_simp; refine hK _ ?_; clear hK K
                  (with_reducible refine wl_k ?_ ?_); exact rfl; intro K hK; go_simp; refine hK _ ?_; clear hK K
                  go_upto_region 14 with (fail)
                  apply wp_region_lit
                  (with_reducible refine wl_k ?_ ?_); exact rfl; intro K hK; go_simp; refine hK _ ?_; clear hK K
                  (first | ((with_reducible apply wl_oneG); exact rfl; exact rfl; first | exact f0 (by with_reducible assumption) | exact f1 (by with_reducible assumption) | exact f2 (by with_reducible assumption) | exact f3 (by with_reducible assumption) | with_reducible assumption | exact g22 (by with_reducible assumption) | exact g25 (by with_reducible assumption)) | ((with_reducible apply wl_rowG); exact rfl; exact rfl; first | with_reducible assumption | exact RowK.now (by with_reducible assumption) | exact f4 (by with_reducible assumption)))
                  (with_reducible refine wl_k ?_ ?_); exact rfl; intro K hK; go_simp; refine hK _ ?_; clear hK K
                  (with_reducible refine wl_k ?_ ?_); exact rfl; intro K hK; go_simp; refine hK _ ?_; clear hK K
                  go_wp2_with fail
                  go_loopw [93] (fun i wr => ∃ (j : Nat) (sol' : List Ty) (f' : Nat → Option Ty) (es' : Array MapEntry) (c' k' : Nat), j ≤ l7 ∧ i = .int .i64 (j : Int) ∧ Hid (Steps k' ((tx.drop j).zip (ty.drop j)) sol' r) ∧ Hid (k' < K1 + 1) ∧ Hid (KnownX m sol' f') ∧ Hid (Good m sol') ∧ Hid (Beyond m sol sol') ∧ Hid (SolR wr ps q f' es' c') ∧ Hid (Keep (fun b => b = q) w wr) ∧ Hid (Keep (fun b => b = q) w7 wr) ∧ wr.heap[p]? = some (.cells (cell4 k7 s7 n7 A7 l7 c7) 24 (0, 0)) ∧ wr.heap[p2]? = some (.cells (cell4 k7 s7 n7 A8 l7 c8) 24 (0, 0))) (fun i _ => l7 - (intOf i).toNat)
                  case atStart => exact ⟨0, _, _, _, _, _, Nat.zero_le _, rfl, HST1, HK1, HK, HG, Lib.hid (beyond_self HG.out), HS7, Lib.hid (Keep.of hb), Lib.hid (Keep.refl _ _), hp, hp2⟩
                  case round =>
                    clear HST1 HK1 hp hp2 hb
                    obtain ⟨j, sol1, f1, es1, c1, k1, hj, rfl, HS1, HK1, HKN, HGS, HBY, HSR, HKW, HK7, hp, hp2⟩ := hrel
                    go_upto_region 15 with (fail)
                    by_cases hlt : j < l7
                    · have hltI : (j : Int) < (l7 : Int) := by omega
                      have HUX9 := Lib.hid (HUX7.out.keep HK7.out (fun b (h : b ≠ q) e => h e))
                      have HUY9 := Lib.hid (HUY7.out.keep HK7.out (fun b (h : b ≠ q) e => h e))
                      obtain ⟨bx, ox, t, rowx, rfl, -, ht, -⟩ := HUX9.out.get hlt
                      obtain ⟨by', oy, u, rowy, rfl, -, hu, -⟩ := HUY9.out.get hlt
                      obtain ⟨rowt, hrt, htt⟩ := HUX9.out.rowC ht (C := fun b => b = q) (fun b (h : b ≠ q) e => h e)
                      obtain ⟨rowu, hru, huu⟩ := HUY9.out.rowC hu (C := fun b => b = q) (fun b (h : b ≠ q) e => h e)
                      have HRT := Lib.hid hrt
                      have HRU := Lib.hid hru
                      have HSQ := Lib.hid (Steps.split (zip_drop ht hu ▸ HS1.out))
                      have hmx := List.mem_of_getElem? ht
                      have hmy := List.mem_of_getElem? hu
                      have HFT : Hid (FineV m t) := Lib.hid (fine_parts (HXN.out ▸ HFX.out) t hmx)
                      have HFU : Hid (FineV m u) := Lib.hid (fine_parts (HYN.out ▸ HFY.out) u hmy)
                      have HST2 := Lib.hid (HSA.out.child HG.out HFA.out (HX.out ▸ HXN.out) HN7.out HBY.out hmx)
                      have HSU2 := Lib.hid (HSB.out.child HG.out HFB.out (HY.out ▸ HYN.out) HN8.out HBY.out hmy)
                      have HTT := Lib.hid htt
                      have HUU := Lib.hid huu
                      clear hrt hru ht hu hmx hmy htt huu
                      apply wp_region_lit
                      (with_reducible refine wl_k ?_ ?_); exact rfl; intro K hK; go_simp; refine hK _ ?_; clear hK K
                      go_upto_region 16 with (fail)
                      apply wp_region_lit
                      (with_reducible refine wl_k ?_ ?_); exact rfl; intro K hK; go_simp; refine hK _ ?_; clear hK K
                      (with_reducible refine wl_k ?_ ?_); exact rfl; intro K hK; go_simp; refine hK _ ?_; clear hK K
                      rcases HSQ.out with ⟨e, hre, h1⟩ | ⟨s', k2, k3, h1, h2, hkk⟩
                      · have HC := Lib.hid (HI.out k1 HK1.out sol1 f1 t u (.error e) es1 c1 (wr.drew) rowt rowu HKN.out HGS.out HFT.out HFU.out HST2.out HSU2.out h1 (HSR.out.old (Below.refl _ _).drew) (HTT.out.old (Below.refl _ _).drew) (HUU.out.old (Below.refl _ _).drew))
                        rcases steps_err h1 HGS.out (fun p hp => by simp at hp; subst hp; exact ⟨HFT.out, HFU.out⟩) e rfl with rfl | rfl | rfl
                        all_goals
                          have HRE := Lib.hid hre
                          clear hre h1
                          go_upto_region 17 with (fail)
                          refine wp_region_held_drew (S := Keep (fun b => b = q) wr) mixed (Keep.drew _ _) (fun hS => ?_)
                          refine hk3 (i := 0) rfl (by kernel_rfl) Zh hS rfl (fun K hK => ?_); go_simp; refine hK _ ?_; clear hK K; try simp only [Zq]
                          refine hk3 (i := 1) rfl (by kernel_rfl) Zh hS rfl (fun K hK => ?_); go_simp; refine hK _ ?_; clear hK K; try simp only [Zq]
                          refine hv3 (i := 2) rfl (by kernel_rfl) Zg hS rfl (fun w' hw' => ex_one rfl (f3 (hw'.look hp HPZ.out.1))) ?_; try simp only [Zy]
                          refine hk3 (i := 3) rfl (by kernel_rfl) Zh hS rfl (fun K hK => ?_); go_simp; refine hK _ ?_; clear hK K; try simp only [Zq]
                          refine hk3 (i := 4) rfl (by kernel_rfl) Zh hS rfl (fun K hK => ?_); go_simp; refine hK _ ?_; clear hK K; try simp only [Zq]
                          refine hv3 (i := 5) rfl (by kernel_rfl) Zg hS rfl (fun w' hw' => ex_row rfl (HRT.out w' hw')) ?_; try simp only [Zy]
                          refine hk3 (i := 6) rfl (by kernel_rfl) Zh hS rfl (fun K hK => ?_); go_simp; refine hK _ ?_; clear hK K; try simp only [Zq]
                          refine hv3 (i := 7) rfl (by kernel_rfl) Zg hS rfl (fun w' hw' => ex_one rfl (f3 (hw'.look hp2 HPZ.out.2))) ?_; try simp only [Zy]
                          refine hk3 (i := 8) rfl (by kernel_rfl) Zh hS rfl (fun K hK => ?_); go_simp; refine hK _ ?_; clear hK K; try simp only [Zq]
                          refine hk3 (i := 9) rfl (by kernel_rfl) Zh hS rfl (fun K hK => ?_); go_simp; refine hK _ ?_; clear hK K; try simp only [Zq]
                          refine hv3 (i := 10) rfl (by kernel_rfl) Zg hS rfl (fun w' hw' => ex_row rfl (HRU.out w' hw')) ?_; try simp only [Zy]
                          refine ha_call (i := 11) (by kernel_rfl) rfl rfl (fun K hK => ?_); go_simp; refine ⟨_, _, ⟨rfl, rfl⟩, hK _ _ ⟨_, HC.out, ?_⟩⟩; clear hK K; rintro e w9 ⟨hk9, rfl⟩
                          have hS9 := hS.trans (fun b h => .inl h) hk9
                          refine ⟨_, rfl, hS9, ?_⟩
                          have HKF := Lib.hid (HKW.out.trans (fun b h => .inl h) hS9)
                          replace hp := hS9.look hp HPZ.out.1
                          replace hp2 := hS9.look hp2 HPZ.out.2
                          replace hS := hS9
                          clear hS9
                          try simp only [Zy]
                          refine hk3 (i := 12) rfl (by kernel_rfl) Zh hS rfl (fun K hK => ?_); go_simp; refine hK _ ?_; clear hK K; try simp only [Zq]
                          refine wpAnyH_done (by kernel_rfl) ?_ _
                          try simp only [Zy]
                          clear hS hk9 HC
                          go_upto_region 18 with (fail)
                          apply wp_region_lit
                          (with_reducible refine wl_k ?_ ?_); exact rfl; intro K hK; go_simp; refine hK _ ?_; clear hK K
                          (with_reducible refine wl_k ?_ ?_); exact rfl; intro K hK; go_simp; refine hK _ ?_; clear hK K
                          go_upto_region 19 with (fail)
                          apply wp_region_lit
                          (with_reducible refine wl_k ?_ ?_); exact rfl; intro K hK; go_simp; refine hK _ ?_; clear hK K
                          (with_reducible refine wl_k ?_ ?_); exact rfl; intro K hK; go_simp; refine hK _ ?_; clear hK K
                          clear hp hp2
                          go_wp2_with fail
                          go_ret
                          exact BPost.err HRE.out HKF.out
                      · obtain ⟨hgs, hby, -, -⟩ := steps_sound h1 HGS.out (fun p hp => by simp at hp; subst hp; exact ⟨HFT.out, HFU.out⟩) s' rfl
                        have HC := Lib.hid (HI.out k2 (by have := HK1.out; omega) sol1 f1 t u (.ok s') es1 c1 (wr.drew) rowt rowu HKN.out HGS.out HFT.out HFU.out HST2.out HSU2.out h1 (HSR.out.old (Below.refl _ _).drew) (HTT.out.old (Below.refl _ _).drew) (HUU.out.old (Below.refl _ _).drew))
                        have HGN := Lib.hid hgs
                        have HBN := Lib.hid (HBY.out.trans HG.out hby)
                        have HS3 := Lib.hid h2
                        have HK3 : Hid (k3 < K1 + 1) := Lib.hid (by have := HK1.out; omega)
                        clear h1 h2 hkk hgs hby HS1 HK1
                        go_upto_region 17 with (fail)
                        refine wp_region_held_drew (S := Keep (fun b => b = q) wr) mixed (Keep.drew _ _) (fun hS => ?_)
                        refine hk3 (i := 0) rfl (by kernel_rfl) Zh hS rfl (fun K hK => ?_); go_simp; refine hK _ ?_; clear hK K; try simp only [Zq]
                        refine hk3 (i := 1) rfl (by kernel_rfl) Zh hS rfl (fun K hK => ?_); go_simp; refine hK _ ?_; clear hK K; try simp only [Zq]
                        refine hv3 (i := 2) rfl (by kernel_rfl) Zg hS rfl (fun w' hw' => ex_one rfl (f3 (hw'.look hp HPZ.out.1))) ?_; try simp only [Zy]
                        refine hk3 (i := 3) rfl (by kernel_rfl) Zh hS rfl (fun K hK => ?_); go_simp; refine hK _ ?_; clear hK K; try simp only [Zq]
                        refine hk3 (i := 4) rfl (by kernel_rfl) Zh hS rfl (fun K hK => ?_); go_simp; refine hK _ ?_; clear hK K; try simp only [Zq]
                        refine hv3 (i := 5) rfl (by kernel_rfl) Zg hS rfl (fun w' hw' => ex_row rfl (HRT.out w' hw')) ?_; try simp only [Zy]
                        refine hk3 (i := 6) rfl (by kernel_rfl) Zh hS rfl (fun K hK => ?_); go_simp; refine hK _ ?_; clear hK K; try simp only [Zq]
                        refine hv3 (i := 7) rfl (by kernel_rfl) Zg hS rfl (fun w' hw' => ex_one rfl (f3 (hw'.look hp2 HPZ.out.2))) ?_; try simp only [Zy]
                        refine hk3 (i := 8) rfl (by kernel_rfl) Zh hS rfl (fun K hK => ?_); go_simp; refine hK _ ?_; clear hK K; try simp only [Zq]
                        refine hk3 (i := 9) rfl (by kernel_rfl) Zh hS rfl (fun K hK => ?_); go_simp; refine hK _ ?_; clear hK K; try simp only [Zq]
                        refine hv3 (i := 10) rfl (by kernel_rfl) Zg hS rfl (fun w' hw' => ex_row rfl (HRU.out w' hw')) ?_; try simp only [Zy]
                        refine ha_call (i := 11) (by kernel_rfl) rfl rfl (fun K hK => ?_); go_simp; refine ⟨_, _, ⟨rfl, rfl⟩, hK _ _ ⟨_, HC.out, ?_⟩⟩; clear hK K; rintro e w9 ⟨hk9, rfl, f9, es9, c9, hs9, hkn9⟩
                        have hS9 := hS.trans (fun b h => .inl h) hk9
                        refine ⟨_, rfl, hS9, ?_⟩
                        have HKF := Lib.hid (HKW.out.trans (fun b h => .inl h) hS9)
                        have HKG := Lib.hid (HK7.out.trans (fun b h => .inl h) hS9)
                        have HSN := Lib.hid hs9
                        have HKM := Lib.hid hkn9
                        replace hp := hS9.look hp HPZ.out.1
                        replace hp2 := hS9.look hp2 HPZ.out.2
                        replace hS := hS9
                        clear hS9 hs9 hkn9
                        try simp only [Zy]
                        refine hk3 (i := 12) rfl (by kernel_rfl) Zh hS rfl (fun K hK => ?_); go_simp; refine hK _ ?_; clear hK K; try simp only [Zq]
                        refine wpAnyH_done (by kernel_rfl) ?_ _
                        try simp only [Zy]
                        clear hS hk9 HC HKW HK7 HRT HRU HTT HUU HUX9 HUY9 HSQ
                        go_upto_region 18 with (fail)
                        apply wp_region_lit
                        (with_reducible refine wl_k ?_ ?_); exact rfl; intro K hK; go_simp; refine hK _ ?_; clear hK K
                        (with_reducible refine wl_k ?_ ?_); exact rfl; intro K hK; go_simp; refine hK _ ?_; clear hK K
                        have hmx : l7 ≤ 9223372036854775807 := by have h1 := HUX7.out.cap; have h2 := HUX7.out.max; unfold maxLen at h2; omega
                        go_wp2_with fail
                        go_roundw
                        case rel => exact ⟨j + 1, s', f9, es9, c9, k3, by omega, by go_num, HS3, HK3, HKM, HGN, HBN, HSN, HKF, HKG, hp, hp2⟩
                        case measure => simp [intOf]; omega
                    · have hltI : ¬ (j : Int) < (l7 : Int) := by omega
                      have HRE : Hid (r = .ok sol1) := Lib.hid (by
                        have := HS1.out
                        rw [List.drop_of_length_le (by rw [HLX.out]; omega), List.zip_nil_left] at this
                        cases this
                        rfl)
                      apply wp_region_lit
                      (with_reducible refine wl_k ?_ ?_); exact rfl; intro K hK; go_simp; refine hK _ ?_; clear hK K
                      clear hltI hlt hp hp2
                      go_wp2_with fail
                      go_ret
                      exact BPost.yes HRE.out HKW.out HSR.out HKN.out
                · have e4 : ((l7 : Int) != (l8 : Int)) = true := by simp; omega
                  have HD4 : Hid (tx.length ≠ ty.length) := Lib.hid (by rw [HLX.out, HLY.out]; exact h4)
                  clear h4
                  have HE2 := Lib.hid (steps_far HST.out (step_31 (HX.out ▸ HXN.out) (HY.out ▸ HYN.out) HN7.out HN8.out (.inr (.inr (.inr HD4.out)))))
                  go_upto_region 12 with (fail)
                  apply wp_region_lit
                  (with_reducible refine wl_k ?_ ?_); exact rfl; intro K hK; go_simp; refine hK _ ?_; clear hK K
                  (first | ((with_reducible apply wl_oneG); exact rfl; exact rfl; first | exact f0 (by with_reducible assumption) | exact f1 (by with_reducible assumption) | exact f2 (by with_reducible assumption) | exact f3 (by with_reducible assumption) | with_reducible assumption | exact g22 (by with_reducible assumption) | exact g25 (by with_reducible assumption)) | ((with_reducible apply wl_rowG); exact rfl; exact rfl; first | with_reducible assumption | exact RowK.now (by with_reducible assumption) | exact f4 (by with_reducible assumption)))
                  (with_reducible refine wl_k ?_ ?_); exact rfl; intro K hK; go_simp; refine hK _ ?_; clear hK K
                  (first | ((with_reducible apply wl_oneG); exact rfl; exact rfl; first | exact f0 (by with_reducible assumption) | exact f1 (by with_reducible assumption) | exact f2 (by with_reducible assumption) | exact f3 (by with_reducible assumption) | with_reducible assumption | exact g22 (by with_reducible assumption) | exact g25 (by with_reducible assumption)) | ((with_reducible apply wl_rowG); exact rfl; exact rfl; first | with_reducible assumption | exact RowK.now (by with_reducible assumption) | exact f4 (by with_reducible assumption)))
                  (with_reducible refine wl_k ?_ ?_); exact rfl; intro K hK; go_simp; refine hK _ ?_; clear hK K
                  (with_reducible refine wl_k ?_ ?_); exact rfl; intro K hK; go_simp; refine hK _ ?_; clear hK K
                  (with_reducible refine wl_k ?_ ?_); exact rfl; intro K hK; go_simp; refine hK _ ?_; clear hK K
                  (first | ((with_reducible apply wl_oneG); exact rfl; exact rfl; first | exact f0 (by with_reducible assumption) | exact f1 (by with_reducible assumption) | exact f2 (by with_reducible assumption) | exact f3 (by with_reducible assumption) | with_reducible assumption | exact g22 (by with_reducible assumption) | exact g25 (by with_reducible assumption)) | ((with_reducible apply wl_rowG); exact rfl; exact rfl; first | with_reducible assumption | exact RowK.now (by with_reducible assumption) | exact f4 (by with_reducible assumption)))
                  (with_reducible refine wl_k ?_ ?_); exact rfl; intro K hK; go_simp; refine hK _ ?_; clear hK K
                  (first | ((with_reducible apply wl_oneG); exact rfl; exact rfl; first | exact f0 (by with_reducible assumption) | exact f1 (by with_reducible assumption) | exact f2 (by with_reducible assumption) | exact f3 (by with_reducible assumption) | with_reducible assumption | exact g22 (by with_reducible assumption) | exact g25 (by with_reducible assumption)) | ((with_reducible apply wl_rowG); exact rfl; exact rfl; first | with_reducible assumption | exact RowK.now (by with_reducible assumption) | exact f4 (by with_reducible assumption)))
                  (with_reducible refine wl_k ?_ ?_); exact rfl; intro K hK; go_simp; refine hK _ ?_; clear hK K
                  (with_reducible refine wl_k ?_ ?_); exact rfl; intro K hK; go_simp; refine hK _ ?_; clear hK K
                  (with_reducible refine wl_k ?_ ?_); exact rfl; intro K hK; go_simp; refine hK _ ?_; clear hK K
                  (with_reducible refine wl_k ?_ ?_); exact rfl; intro K hK; go_simp; refine hK _ ?_; clear hK K
                  (first | ((with_reducible apply wl_oneG); exact rfl; exact rfl; first | exact f0 (by with_reducible assumption) | exact f1 (by with_reducible assumption) | exact f2 (by with_reducible assumption) | exact f3 (by with_reducible assumption) | with_reducible assumption | exact g22 (by with_reducible assumption) | exact g25 (by with_reducible assumption)) | ((with_reducible apply wl_rowG); exact rfl; exact rfl; first | with_reducible assumption | exact RowK.now (by with_reducible assumption) | exact f4 (by with_reducible assumption)))
                  (with_reducible refine wl_k ?_ ?_); exact rfl; intro K hK; go_simp; refine hK _ ?_; clear hK K
                  (first | ((with_reducible apply wl_oneG); exact rfl; exact rfl; first | exact f0 (by with_reducible assumption) | exact f1 (by with_reducible assumption) | exact f2 (by with_reducible assumption) | exact f3 (by with_reducible assumption) | with_reducible assumption | exact g22 (by with_reducible assumption) | exact g25 (by with_reducible assumption)) | ((with_reducible apply wl_rowG); exact rfl; exact rfl; first | with_reducible assumption | exact RowK.now (by with_reducible assumption) | exact f4 (by with_reducible assumption)))
                  (with_reducible refine wl_k ?_ ?_); exact rfl; intro K hK; go_simp; refine hK _ ?_; clear hK K
                  (with_reducible refine wl_k ?_ ?_); exact rfl; intro K hK; go_simp; refine hK _ ?_; clear hK K
                  (with_reducible refine wl_k ?_ ?_); exact rfl; intro K hK; go_simp; refine hK _ ?_; clear hK K
                  (with_reducible refine wl_k ?_ ?_); exact rfl; intro K hK; go_simp; refine hK _ ?_; clear hK K
                  (first | ((with_reducible apply wl_oneG); exact rfl; exact rfl; first | exact f0 (by with_reducible assumption) | exact f1 (by with_reducible assumption) | exact f2 (by with_reducible assumption) | exact f3 (by with_reducible assumption) | with_reducible assumption | exact g22 (by with_reducible assumption) | exact g25 (by with_reducible assumption)) | ((with_reducible apply wl_rowG); exact rfl; exact rfl; first | with_reducible assumption | exact RowK.now (by with_reducible assumption) | exact f4 (by with_reducible assumption)))
                  (with_reducible refine wl_k ?_ ?_); exact rfl; intro K hK; go_simp; refine hK _ ?_; clear hK K
                  (with_reducible refine wl_k ?_ ?_); exact rfl; intro K hK; go_simp; refine hK _ ?_; clear hK K
                  (first | ((with_reducible apply wl_oneG); exact rfl; exact rfl; first | exact f0 (by with_reducible assumption) | exact f1 (by with_reducible assumption) | exact f2 (by with_reducible assumption) | exact f3 (by with_reducible assumption) | with_reducible assumption | exact g22 (by with_reducible assumption) | exact g25 (by with_reducible assumption)) | ((with_reducible apply wl_rowG); exact rfl; exact rfl; first | with_reducible assumption | exact RowK.now (by with_reducible assumption) | exact f4 (by with_reducible assumption)))
                  (with_reducible refine wl_k ?_ ?_); exact rfl; intro K hK; go_simp; refine hK _ ?_; clear hK K
                  (with_reducible refine wl_k ?_ ?_); exact rfl; intro K hK; go_simp; refine hK _ ?_; clear hK K
                  (with_reducible refine wl_k ?_ ?_); exact rfl; intro K hK; go_simp; refine hK _ ?_; clear hK K
                  (with_reducible refine wl_k ?_ ?_); exact rfl; intro K hK; go_simp; refine hK _ ?_; clear hK K
                  clear e4 hp hp2
                  go_upto_region 13 with (fail)
                  apply wp_region_lit
                  (with_reducible refine wl_k ?_ ?_); exact rfl; intro K hK; go_simp; refine hK _ ?_; clear hK K
                  go_wp2_with fail
                  go_ret
                  exact BPost.err HE2.out (Keep.of hb)
              · have e3 : (n7 != n8) = true := by simp [h3]
                have HD3 := Lib.hid h3
                clear h3
                have HE2 := Lib.hid (steps_far HST.out (step_31 (HX.out ▸ HXN.out) (HY.out ▸ HYN.out) HN7.out HN8.out (.inr (.inr (.inl HD3.out)))))
                go_upto_region 12 with (fail)
                apply wp_region_lit
                (with_reducible refine wl_k ?_ ?_); exact rfl; intro K hK; go_simp; refine hK _ ?_; clear hK K
                (first | ((with_reducible apply wl_oneG); exact rfl; exact rfl; first | exact f0 (by with_reducible assumption) | exact f1 (by with_reducible assumption) | exact f2 (by with_reducible assumption) | exact f3 (by with_reducible assumption) | with_reducible assumption | exact g22 (by with_reducible assumption) | exact g25 (by with_reducible assumption)) | ((with_reducible apply wl_rowG); exact rfl; exact rfl; first | with_reducible assumption | exact RowK.now (by with_reducible assumption) | exact f4 (by with_reducible assumption)))
                (with_reducible refine wl_k ?_ ?_); exact rfl; intro K hK; go_simp; refine hK _ ?_; clear hK K
                (first | ((with_reducible apply wl_oneG); exact rfl; exact rfl; first | exact f0 (by with_reducible assumption) | exact f1 (by with_reducible assumption) | exact f2 (by with_reducible assumption) | exact f3 (by with_reducible assumption) | with_reducible assumption | exact g22 (by with_reducible assumption) | exact g25 (by with_reducible assumption)) | ((with_reducible apply wl_rowG); exact rfl; exact rfl; first | with_reducible assumption | exact RowK.now (by with_reducible assumption) | exact f4 (by with_reducible assumption)))
                (with_reducible refine wl_k ?_ ?_); exact rfl; intro K hK; go_simp; refine hK _ ?_; clear hK K
                (with_reducible refine wl_k ?_ ?_); exact rfl; intro K hK; go_simp; refine hK _ ?_; clear hK K
                (with_reducible refine wl_k ?_ ?_); exact rfl; intro K hK; go_simp; refine hK _ ?_; clear hK K
                (first | ((with_reducible apply wl_oneG); exact rfl; exact rfl; first | exact f0 (by with_reducible assumption) | exact f1 (by with_reducible assumption) | exact f2 (by with_reducible assumption) | exact f3 (by with_reducible assumption) | with_reducible assumption | exact g22 (by with_reducible assumption) | exact g25 (by with_reducible assumption)) | ((with_reducible apply wl_rowG); exact rfl; exact rfl; first | with_reducible assumption | exact RowK.now (by with_reducible assumption) | exact f4 (by with_reducible assumption)))
                (with_reducible refine wl_k ?_ ?_); exact rfl; intro K hK; go_simp; refine hK _ ?_; clear hK K
                (first | ((with_reducible apply wl_oneG); exact rfl; exact rfl; first | exact f0 (by with_reducible assumption) | exact f1 (by with_reducible assumption) | exact f2 (by with_reducible assumption) | exact f3 (by with_reducible assumption) | with_reducible assumption | exact g22 (by with_reducible assumption) | exact g25 (by with_reducible assumption)) | ((with_reducible apply wl_rowG); exact rfl; exact rfl; first | with_reducible assumption | exact RowK.now (by with_reducible assumption) | exact f4 (by with_reducible assumption)))
                (with_reducible refine wl_k ?_ ?_); exact rfl; intro K hK; go_simp; refine hK _ ?_; clear hK K
                (with_reducible refine wl_k ?_ ?_); exact rfl; intro K hK; go_simp; refine hK _ ?_; clear hK K
                (with_reducible refine wl_k ?_ ?_); exact rfl; intro K hK; go_simp; refine hK _ ?_; clear hK K
                (with_reducible refine wl_k ?_ ?_); exact rfl; intro K hK; go_simp; refine hK _ ?_; clear hK K
                (first | ((with_reducible apply wl_oneG); exact rfl; exact rfl; first | exact f0 (by with_reducible assumption) | exact f1 (by with_reducible assumption) | exact f2 (by with_reducible assumption) | exact f3 (by with_reducible assumption) | with_reducible assumption | exact g22 (by with_reducible assumption) | exact g25 (by with_reducible assumption)) | ((with_reducible apply wl_rowG); exact rfl; exact rfl; first | with_reducible assumption | exact RowK.now (by with_reducible assumption) | exact f4 (by with_reducible assumption)))
                (with_reducible refine wl_k ?_ ?_); exact rfl; intro K hK; go_simp; refine hK _ ?_; clear hK K
                (first | ((with_reducible apply wl_oneG); exact rfl; exact rfl; first | exact f0 (by with_reducible assumption) | exact f1 (by with_reducible assumption) | exact f2 (by with_reducible assumption) | exact f3 (by with_reducible assumption) | with_reducible assumption | exact g22 (by with_reducible assumption) | exact g25 (by with_reducible assumption)) | ((with_reducible apply wl_rowG); exact rfl; exact rfl; first | with_reducible assumption | exact RowK.now (by with_reducible assumption) | exact f4 (by with_reducible assumption)))
                (with_reducible refine wl_k ?_ ?_); exact rfl; intro K hK; go_simp; refine hK _ ?_; clear hK K
                (with_reducible refine wl_k ?_ ?_); exact rfl; intro K hK; go_simp; refine hK _ ?_; clear hK K
                (with_reducible refine wl_k ?_ ?_); exact rfl; intro K hK; go_simp; refine hK _ ?_; clear hK K
                (first | ((with_reducible refine wl_skipU ?_ ?_ ?_); exact rfl; exact rfl) | ((with_reducible refine wl_skip ?_ ?_); exact rfl; simp only [Zq]))
                (first | ((with_reducible refine wl_skipU ?_ ?_ ?_); exact rfl; exact rfl) | ((with_reducible refine wl_skip ?_ ?_); exact rfl; simp only [Zq]))
                (first | ((with_reducible refine wl_skipU ?_ ?_ ?_); exact rfl; exact rfl) | ((with_reducible refine wl_skip ?_ ?_); exact rfl; simp only [Zq]))
                (first | ((with_reducible refine wl_skipU ?_ ?_ ?_); exact rfl; exact rfl) | ((with_reducible refine wl_skip ?_ ?_); exact rfl; simp only [Zq]))
                (first | ((with_reducible refine wl_skipU ?_ ?_ ?_); exact rfl; exact rfl) | ((with_reducible refine wl_skip ?_ ?_); exact rfl; simp only [Zq]))
                (first | ((with_reducible refine wl_skipU ?_ ?_ ?_); exact rfl; exact rfl) | ((with_reducible refine wl_skip ?_ ?_); exact rfl; simp only [Zq]))
                (first | ((with_reducible refine wl_skipU ?_ ?_ ?_); exact rfl; exact rfl) | ((with_reducible refine wl_skip ?_ ?_); exact rfl; simp only [Zq]))
                (with_reducible refine wl_k ?_ ?_); exact rfl; intro K hK; go_simp; refine hK _ ?_; clear hK K
                (with_reducible refine wl_k ?_ ?_); exact rfl; intro K hK; go_simp; refine hK _ ?_; clear hK K
                clear e3 hp hp2
                go_upto_region 13 with (fail)
                apply wp_region_lit
                (with_reducible refine wl_k ?_ ?_); exact rfl; intro K hK; go_simp; refine hK _ ?_; clear hK K
                go_wp2_with fail
                go_ret
                exact BPost.err HE2.out (Keep.of hb)
            · have e2 : (s7.toList == s8.toList) = false := beq_eq_false_iff_ne.2 (fun e => h2 (bytes_inj e))
              have e2b : (s7.toList != s8.toList) = true := by simp only [bne, e2]; rfl
              have HD2 := Lib.hid h2
              clear h2
              have HE2 := Lib.hid (steps_far HST.out (step_31 (HX.out ▸ HXN.out) (HY.out ▸ HYN.out) HN7.out HN8.out (.inr (.inl HD2.out))))
              go_upto_region 12 with (fail)
              apply wp_region_lit
              (with_reducible refine wl_k ?_ ?_); exact rfl; intro K hK; go_simp; refine hK _ ?_; clear hK K
              (first | ((with_reducible apply wl_oneG); exact rfl; exact rfl; first | exact f0 (by with_reducible assumption) | exact f1 (by with_reducible assumption) | exact f2 (by with_reducible assumption) | exact f3 (by with_reducible assumption) | with_reducible assumption | exact g22 (by with_reducible assumption) | exact g25 (by with_reducible assumption)) | ((with_reducible apply wl_rowG); exact rfl; exact rfl; first | with_reducible assumption | exact RowK.now (by with_reducible assumption) | exact f4 (by with_reducible assumption)))
              (with_reducible refine wl_k ?_ ?_); exact rfl; intro K hK; go_simp; refine hK _ ?_; clear hK K
              (first | ((with_reducible apply wl_oneG); exact rfl; exact rfl; first | exact f0 (by with_reducible assumption) | exact f1 (by with_reducible assumption) | exact f2 (by with_reducible assumption) | exact f3 (by with_reducible assumption) | with_reducible assumption | exact g22 (by with_reducible assumption) | exact g25 (by with_reducible assumption)) | ((with_reducible apply wl_rowG); exact rfl; exact rfl; first | with_reducible assumption | exact RowK.now (by with_reducible assumption) | exact f4 (by with_reducible assumption)))
              (with_reducible refine wl_k ?_ ?_); exact rfl; intro K hK; go_simp; refine hK _ ?_; clear hK K
              (with_reducible refine wl_k ?_ ?_); exact rfl; intro K hK; go_simp; refine hK _ ?_; clear hK K
              (with_reducible refine wl_k ?_ ?_); exact rfl; intro K hK; go_simp; refine hK _ ?_; clear hK K
              (first | ((with_reducible apply wl_oneG); exact rfl; exact rfl; first | exact f0 (by with_reducible assumption) | exact f1 (by with_reducible assumption) | exact f2 (by with_reducible assumption) | exact f3 (by with_reducible assumption) | with_reducible assumption | exact g22 (by with_reducible assumption) | exact g25 (by with_reducible assumption)) | ((with_reducible apply wl_rowG); exact rfl; exact rfl; first | with_reducible assumption | exact RowK.now (by with_reducible assumption) | exact f4 (by with_reducible assumption)))
              (with_reducible refine wl_k ?_ ?_); exact rfl; intro K hK; go_simp; refine hK _ ?_; clear hK K
              (first | ((with_reducible apply wl_oneG); exact rfl; exact rfl; first | exact f0 (by with_reducible assumption) | exact f1 (by with_reducible assumption) | exact f2 (by with_reducible assumption) | exact f3 (by with_reducible assumption) | with_reducible assumption | exact g22 (by with_reducible assumption) | exact g25 (by with_reducible assumption)) | ((with_reducible apply wl_rowG); exact rfl; exact rfl; first | with_reducible assumption | exact RowK.now (by with_reducible assumption) | exact f4 (by with_reducible assumption)))
              (with_reducible refine wl_k ?_ ?_); exact rfl; intro K hK; go_simp; refine hK _ ?_; clear hK K
              (with_reducible refine wl_k ?_ ?_); exact rfl; intro K hK; go_simp; refine hK _ ?_; clear hK K
              (with_reducible refine wl_k ?_ ?_); exact rfl; intro K hK; go_simp; refine hK _ ?_; clear hK K
              (first | ((with_reducible refine wl_skipU ?_ ?_ ?_); exact rfl; exact rfl) | ((with_reducible refine wl_skip ?_ ?_); exact rfl; simp only [Zq]))
              (first | ((with_reducible refine wl_skipU ?_ ?_ ?_); exact rfl; exact rfl) | ((with_reducible refine wl_skip ?_ ?_); exact rfl; simp only [Zq]))
              (first | ((with_reducible refine wl_skipU ?_ ?_ ?_); exact rfl; exact rfl) | ((with_reducible refine wl_skip ?_ ?_); exact rfl; simp only [Zq]))
              (first | ((with_reducible refine wl_skipU ?_ ?_ ?_); exact rfl; exact rfl) | ((with_reducible refine wl_skip ?_ ?_); exact rfl; simp only [Zq]))
              (first | ((with_reducible refine wl_skipU ?_ ?_ ?_); exact rfl; exact rfl) | ((with_reducible refine wl_skip ?_ ?_); exact rfl; simp only [Zq]))
              (with_reducible refine wl_k ?_ ?_); exact rfl; intro K hK; go_simp; refine hK _ ?_; clear hK K
              (with_reducible refine wl_k ?_ ?_); exact rfl; intro K hK; go_simp; refine hK _ ?_; clear hK K
              (first | ((with_reducible refine wl_skipU ?_ ?_ ?_); exact rfl; exact rfl) | ((with_reducible refine wl_skip ?_ ?_); exact rfl; simp only [Zq]))
              (first | ((with_reducible refine wl_skipU ?_ ?_ ?_); exact rfl; exact rfl) | ((with_reducible refine wl_skip ?_ ?_); exact rfl; simp only [Zq]))
              (first | ((with_reducible refine wl_skipU ?_ ?_ ?_); exact rfl; exact rfl) | ((with_reducible refine wl_skip ?_ ?_); exact rfl; simp only [Zq]))
              (first | ((with_reducible refine wl_skipU ?_ ?_ ?_); exact rfl; exact rfl) | ((with_reducible refine wl_skip ?_ ?_); exact rfl; simp only [Zq]))
              (first | ((with_reducible refine wl_skipU ?_ ?_ ?_); exact rfl; exact rfl) | ((with_reducible refine wl_skip ?_ ?_); exact rfl; simp only [Zq]))
              (first | ((with_reducible refine wl_skipU ?_ ?_ ?_); exact rfl; exact rfl) | ((with_reducible refine wl_skip ?_ ?_); exact rfl; simp only [Zq]))
              (first | ((with_reducible refine wl_skipU ?_ ?_ ?_); exact rfl; exact rfl) | ((with_reducible refine wl_skip ?_ ?_); exact rfl; simp only [Zq]))
              (with_reducible refine wl_k ?_ ?_); exact rfl; intro K hK; go_simp; refine hK _ ?_; clear hK K
              (with_reducible refine wl_k ?_ ?_); exact rfl; intro K hK; go_simp; refine hK _ ?_; clear hK K
              clear e2 e2b hp hp2
              go_upto_region 13 with (fail)
              apply wp_region_lit
              (with_reducible refine wl_k ?_ ?_); exact rfl; intro K hK; go_simp; refine hK _ ?_; clear hK K
              go_wp2_with fail
              go_ret
              exact BPost.err HE2.out (Keep.of hb)
          · have e1 : (k7 != k8) = true := by simp [h1]
            have HD1 := Lib.hid h1
            clear h1
            have HE2 := Lib.hid (steps_far HST.out (step_31 (HX.out ▸ HXN.out) (HY.out ▸ HYN.out) HN7.out HN8.out (.inl HD1.out)))
            go_upto_region 12 with (fail)
            apply wp_region_lit
            (with_reducible refine wl_k ?_ ?_); exact rfl; intro K hK; go_simp; refine hK _ ?_; clear hK K
            (first | ((with_reducible apply wl_oneG); exact rfl; exact rfl; first | exact f0 (by with_reducible assumption) | exact f1 (by with_reducible assumption) | exact f2 (by with_reducible assumption) | exact f3 (by with_reducible assumption) | with_reducible assumption | exact g22 (by with_reducible assumption) | exact g25 (by with_reducible assumption)) | ((with_reducible apply wl_rowG); exact rfl; exact rfl; first | with_reducible assumption | exact RowK.now (by with_reducible assumption) | exact f4 (by with_reducible assumption)))
            (with_reducible refine wl_k ?_ ?_); exact rfl; intro K hK; go_simp; refine hK _ ?_; clear hK K
            (first | ((with_reducible apply wl_oneG); exact rfl; exact rfl; first | exact f0 (by with_reducible assumption) | exact f1 (by with_reducible assumption) | exact f2 (by with_reducible assumption) | exact f3 (by with_reducible assumption) | with_reducible assumption | exact g22 (by with_reducible assumption) | exact g25 (by with_reducible assumption)) | ((with_reducible apply wl_rowG); exact rfl; exact rfl; first | with_reducible assumption | exact RowK.now (by with_reducible assumption) | exact f4 (by with_reducible assumption)))
            (with_reducible refine wl_k ?_ ?_); exact rfl; intro K hK; go_simp; refine hK _ ?_; clear hK K
            (with_reducible refine wl_k ?_ ?_); exact rfl; intro K hK; go_simp; refine hK _ ?_; clear hK K
            (first | ((with_reducible refine wl_skipU ?_ ?_ ?_); exact rfl; exact rfl) | ((with_reducible refine wl_skip ?_ ?_); exact rfl; simp only [Zq]))
            (first | ((with_reducible refine wl_skipU ?_ ?_ ?_); exact rfl; exact rfl) | ((with_reducible refine wl_skip ?_ ?_); exact rfl; simp only [Zq]))
            (first | ((with_reducible refine wl_skipU ?_ ?_ ?_); exact rfl; exact rfl) | ((with_reducible refine wl_skip ?_ ?_); exact rfl; simp only [Zq]))
            (first | ((with_reducible refine wl_skipU ?_ ?_ ?_); exact rfl; exact rfl) | ((with_reducible refine wl_skip ?_ ?_); exact rfl; simp only [Zq]))
            (first | ((with_reducible refine wl_skipU ?_ ?_ ?_); exact rfl; exact rfl) | ((with_reducible refine wl_skip ?_ ?_); exact rfl; simp only [Zq]))
            (with_reducible refine wl_k ?_ ?_); exact rfl; intro K hK; go_simp; refine hK _ ?_; clear hK K
            (with_reducible refine wl_k ?_ ?_); exact rfl; intro K hK; go_simp; refine hK _ ?_; clear hK K
            (first | ((with_reducible refine wl_skipU ?_ ?_ ?_); exact rfl; exact rfl) | ((with_reducible refine wl_skip ?_ ?_); exact rfl; simp only [Zq]))
            (first | ((with_reducible refine wl_skipU ?_ ?_ ?_); exact rfl; exact rfl) | ((with_reducible refine wl_skip ?_ ?_); exact rfl; simp only [Zq]))
            (first | ((with_reducible refine wl_skipU ?_ ?_ ?_); exact rfl; exact rfl) | ((with_reducible refine wl_skip ?_ ?_); exact rfl; simp only [Zq]))
            (first | ((with_reducible refine wl_skipU ?_ ?_ ?_); exact rfl; exact rfl) | ((with_reducible refine wl_skip ?_ ?_); exact rfl; simp only [Zq]))
            (first | ((with_reducible refine wl_skipU ?_ ?_ ?_); exact rfl; exact rfl) | ((with_reducible refine wl_skip ?_ ?_); exact rfl; simp only [Zq]))
            (with_reducible refine wl_k ?_ ?_); exact rfl; intro K hK; go_simp; refine hK _ ?_; clear hK K
            (with_reducible refine wl_k ?_ ?_); exact rfl; intro K hK; go_simp; refine hK _ ?_; clear hK K
            (first | ((with_reducible refine wl_skipU ?_ ?_ ?_); exact rfl; exact rfl) | ((with_reducible refine wl_skip ?_ ?_); exact rfl; simp only [Zq]))
            (first | ((with_reducible refine wl_skipU ?_ ?_ ?_); exact rfl; exact rfl) | ((with_reducible refine wl_skip ?_ ?_); exact rfl; simp only [Zq]))
            (first | ((with_reducible refine wl_skipU ?_ ?_ ?_); exact rfl; exact rfl) | ((with_reducible refine wl_skip ?_ ?_); exact rfl; simp only [Zq]))
            (first | ((with_reducible refine wl_skipU ?_ ?_ ?_); exact rfl; exact rfl) | ((with_reducible refine wl_skip ?_ ?_); exact rfl; simp only [Zq]))
            (first | ((with_reducible refine wl_skipU ?_ ?_ ?_); exact rfl; exact rfl) | ((with_reducible refine wl_skip ?_ ?_); exact rfl; simp only [Zq]))
            (first | ((with_reducible refine wl_skipU ?_ ?_ ?_); exact rfl; exact rfl) | ((with_reducible refine wl_skip ?_ ?_); exact rfl; simp only [Zq]))
            (first | ((with_reducible refine wl_skipU ?_ ?_ ?_); exact rfl; exact rfl) | ((with_reducible refine wl_skip ?_ ?_); exact rfl; simp only [Zq]))
            (with_reducible refine wl_k ?_ ?_); exact rfl; intro K hK; go_simp; refine hK _ ?_; clear hK K
            (with_reducible refine wl_k ?_ ?_); exact rfl; intro K hK; go_simp; refine hK _ ?_; clear hK K
            clear e1 hp hp2
            go_upto_region 13 with (fail)
            apply wp_region_lit
            (with_reducible refine wl_k ?_ ?_); exact rfl; intro K hK; go_simp; refine hK _ ?_; clear hK K
            go_wp2_with fail
            go_ret
            exact BPost.err HE2.out (Keep.of hb)
theorem equal_any {m ps q : Nat} (hpq : ps ≠ q) : ∀ k, EqualC m ps q k := fun k => Nat.strongRecOn k fun k ih => equal_step hpq k ih
end Go.Proofs.YtokmaehefenpmaaDoor
