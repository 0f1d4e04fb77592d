/- The text of a tree, plainly. No program in sight. The document's Number, Open. -/
import Derived.Lib.ItoaNum
import Derived.Test.YtokmaehefenpmaaDoorPD1
import Derived.Laws.IdiomStrings
import Derived.Test.YtokmaehefenpmaaDoorPD17
import Derived.Test.YtokmaehefenpmaaDoorPD13
namespace Go.Proofs.YtokmaehefenpmaaDoor
/-- The word of a node. -/
def wordT (k : Int) (s : ByteArray) (n : Int) : List UInt8 :=
  if k = 1 then [73, 110, 116] else if k = 2 then [66, 111, 111, 108] else if k = 3 then [84, 101, 120, 116] else if k = 4 then [85, 110, 105, 116]
  else if k = 5 then [65, 114, 114, 97, 121] else if k = 11 then [87, 101, 97, 107] else if k = 6 then s.data.toList else if k = 7 then 36 :: s.data.toList
  else if k = 9 then [97, 110, 121, 32] ++ s.data.toList else 63 :: Lib.decDigits n.toNat
mutual
/-- The text of a tree. -/
def txtT : Ty → List UInt8
  | .node k s n l =>
    if k = 8 then txtSep true l ++ (46 :: s.data.toList)
    else if k = 10 then 40 :: txtFn true l
    else wordT k s n ++ if l.isEmpty then [] else 60 :: (txtSep true l ++ [62])
/-- Texts with commas between them. -/
def txtSep (first : Bool) : List Ty → List UInt8
  | [] => []
  | t :: l => (if first then [] else [44, 32]) ++ (txtT t ++ txtSep false l)
/-- The parts of a function's text behind the first sign. -/
def txtFn (first : Bool) : List Ty → List UInt8
  | [] => []
  | t :: l => if l.isEmpty then [41, 32, 45, 62, 32] ++ txtT t else (if first then [] else [44, 32]) ++ (txtT t ++ txtFn false l)
end
end Go.Proofs.YtokmaehefenpmaaDoor
namespace Go.Proofs.YtokmaehefenpmaaDoor
open Go.RowKit Go.Proofs.YtokmaehefenpmaaDoor.Nm
set_option linter.unusedSimpArgs false
set_option maxHeartbeats 2000000 in
set_option maxRecDepth 100000 in
theorem OpenI_any (t : Ty) (w : World) (D : Nat → Prop) (row : Array Value) (h : TyAt w D t row) :
    Calls Tryd.prog 44 #[.agg row] w fun e w' => e = .returned (.bool (validB true t)) ∧ Below w.heap.size w w' := by
  have HT := Lib.hid h
  obtain ⟨k, s, n, A, l, c, ts, he, rfl, -⟩ := h.parts
  clear h he
  have hb := Below.refl w.heap.size w
  go_enter Tryd.func44, Tryd.ntmps44
  go_upto_region 0 with (fail)
  apply wp_region_lit
  (with_reducible refine wl_box rfl ?_); intro W p hbn hlp hp; replace hb := hb.trans (hbn.mono hb.size); clear hbn; simp only [put_lit, List.set_cons_zero, List.set_cons_succ]
  (with_reducible refine wl_k ?_ ?_); exact rfl; intro K hK; go_simp; refine hK _ ?_; clear hK K
  have HC := Lib.hid (TypeNodes_any 40 (by omega) t W D _ (HT.out.old hb))
  go_upto_region 1 with (fail)
  by_cases hn : t.nodes ≤ 40
  · have e1 : ((min t.nodes (40 + 1) : Nat) : Int) ≤ 40 := by omega
    have HF : Hid (validB true t = t.all (nodeB true)) := Lib.hid (by unfold validB; rw [decide_eq_true hn]; rfl)
    clear hn
    apply wp_region_lit
    (first | ((with_reducible apply wl_oneG); exact rfl; exact rfl; first | exact f0 (by with_reducible assumption) | exact f1 (by with_reducible assumption) | exact f2 (by with_reducible assumption) | exact f3 (by with_reducible assumption) | with_reducible assumption | exact g22 (by with_reducible assumption) | exact g25 (by with_reducible assumption)) | ((with_reducible apply wl_rowG); exact rfl; exact rfl; first | with_reducible assumption | exact RowK.now (by with_reducible assumption) | exact f4 (by with_reducible assumption)))
    (with_reducible refine wl_ck ?_ ?_); exact rfl; intro K hK; go_simp; refine ⟨_, _, ⟨rfl, rfl⟩, hK _ _ ⟨_, HC.out, ?_⟩⟩; clear hK K; rintro e w7 ⟨rfl, hb7⟩; refine ⟨_, rfl, ?_⟩; simp only [put_lit, List.set_cons_zero, List.set_cons_succ]
    replace hp := below_look hb7 hp; replace hb := hb.trans (hb7.mono hb.size); clear hb7
    clear HC
    have HC := Lib.hid (all_any true t w7 D _ (HT.out.old hb))
    (with_reducible refine wl_k ?_ ?_); exact rfl; intro K hK; go_simp; refine hK _ ?_; clear hK K
    (with_reducible refine wl_k ?_ ?_); exact rfl; intro K hK; go_simp; refine hK _ ?_; clear hK K
    (first | ((with_reducible apply wl_oneG); exact rfl; exact rfl; first | exact f0 (by with_reducible assumption) | exact f1 (by with_reducible assumption) | exact f2 (by with_reducible assumption) | exact f3 (by with_reducible assumption) | with_reducible assumption | exact g22 (by with_reducible assumption) | exact g25 (by with_reducible assumption)) | ((with_reducible apply wl_rowG); exact rfl; exact rfl; first | with_reducible assumption | exact RowK.now (by with_reducible assumption) | exact f4 (by with_reducible assumption)))
    (with_reducible refine wl_ck ?_ ?_); exact rfl; intro K hK; go_simp; refine ⟨_, _, ⟨rfl, rfl⟩, hK _ _ ⟨_, HC.out, ?_⟩⟩; clear hK K; rintro e w8 ⟨rfl, hb8⟩; refine ⟨_, rfl, ?_⟩; simp only [put_lit, List.set_cons_zero, List.set_cons_succ]
    (with_reducible refine wl_k ?_ ?_); exact rfl; intro K hK; go_simp; refine hK _ ?_; clear hK K
    (with_reducible refine wl_k ?_ ?_); exact rfl; intro K hK; go_simp; refine hK _ ?_; clear hK K
    replace hp := below_look hb8 hp; replace hb := hb.trans (hb8.mono hb.size); clear hb8
    clear HC hp
    go_wp2_with fail
    go_ret
    exact ⟨by rw [HF.out]; rfl, hb⟩
  · have e1 : ¬ ((min t.nodes (40 + 1) : Nat) : Int) ≤ 40 := by omega
    have HF : Hid (validB true t = false) := Lib.hid (by unfold validB; rw [decide_eq_false hn]; rfl)
    clear hn
    apply wp_region_lit
    (first | ((with_reducible apply wl_oneG); exact rfl; exact rfl; first | exact f0 (by with_reducible assumption) | exact f1 (by with_reducible assumption) | exact f2 (by with_reducible assumption) | exact f3 (by with_reducible assumption) | with_reducible assumption | exact g22 (by with_reducible assumption) | exact g25 (by with_reducible assumption)) | ((with_reducible apply wl_rowG); exact rfl; exact rfl; first | with_reducible assumption | exact RowK.now (by with_reducible assumption) | exact f4 (by with_reducible assumption)))
    (with_reducible refine wl_ck ?_ ?_); exact rfl; intro K hK; go_simp; refine ⟨_, _, ⟨rfl, rfl⟩, hK _ _ ⟨_, HC.out, ?_⟩⟩; clear hK K; rintro e w7 ⟨rfl, hb7⟩; refine ⟨_, rfl, ?_⟩; simp only [put_lit, List.set_cons_zero, List.set_cons_succ]
    replace hp := below_look hb7 hp; replace hb := hb.trans (hb7.mono hb.size); clear hb7
    clear HC
    (with_reducible refine wl_k ?_ ?_); exact rfl; intro K hK; go_simp; refine hK _ ?_; clear hK K
    (with_reducible refine wl_k ?_ ?_); exact rfl; intro K hK; go_simp; refine hK _ ?_; clear hK K
    (first | ((with_reducible refine wl_skipU ?_ ?_ ?_); exact rfl; exact rfl) | ((with_reducible refine wl_skip ?_ ?_); exact rfl; simp only [put_lit, List.set_cons_zero, List.set_cons_succ]))
    (first | ((with_reducible refine wl_skipU ?_ ?_ ?_); exact rfl; exact rfl) | ((with_reducible refine wl_skip ?_ ?_); exact rfl; simp only [put_lit, List.set_cons_zero, List.set_cons_succ]))
    (with_reducible refine wl_k ?_ ?_); exact rfl; intro K hK; go_simp; refine hK _ ?_; clear hK K
    (with_reducible refine wl_k ?_ ?_); exact rfl; intro K hK; go_simp; refine hK _ ?_; clear hK K
    clear hp
    go_wp2_with fail
    go_ret
    exact ⟨by rw [HF.out]; rfl, hb⟩
end Go.Proofs.YtokmaehefenpmaaDoor
