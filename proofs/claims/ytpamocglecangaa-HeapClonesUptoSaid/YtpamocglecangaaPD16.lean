/- Inputs out of a row, with their weight: types counted too. -/
import Derived.Test.YtpamocglecangaaPD15
import Derived.Test.YtpamocglecangaaPD14
set_option maxHeartbeats 16000000
set_option maxRecDepth 100000
namespace Go.Proofs.Ytpamocglecangaa
open Go.ChangeShapes Go.WideShapes Go.ChangeAt Go.RowKit
theorem sum_ty : ∀ l : List Ty, sumN (l.map fun t => 4 * t.nodes) = 4 * nodesL l
 | [] => by simp [sumN, nodesL]
 | t :: l => by simp only [List.map_cons, sumN, nodesL, sum_ty l]; omega
theorem sum_vaF : ∀ l : List Va, sumN (l.map fun v => 4 * nodesF v) = 4 * nodesFs l
 | [] => by simp [sumN, nodesFs]
 | v :: l => by simp only [List.map_cons, sumN, nodesFs, sum_vaF l]; omega
theorem bulk_pos {H : Type} : ∀ d : DataW H, 1 <= Rows.uptoBulk d := by
 intro d
 cases d with
 | lit l => cases l <;> simp [Rows.uptoBulk]
 | _ => simp [Rows.uptoBulk]
mutual
theorem wV_nodesF : ∀ v : Va, wV v <= nodesF v
 | .node k n s t ts l => by
  have := wVs_nodesFs l
  simp only [wV, nodesF]; omega
theorem wVs_nodesFs : ∀ l : List Va, wVs l <= nodesFs l
 | [] => by simp [wVs]
 | v :: l => by
  have h1 := wV_nodesF v
  have h2 := wVs_nodesFs l
  simp only [wVs, nodesFs]; omega
end
def clF (q : Cl) : Nat := 4 * nodesFs q.l + 4 * nodesF q.v + 4 * nodesF q.x + 4 * q.t.nodes
section
variable {H : Type} {enc : TypeId × Value -> H} {w : World} {base b0 : Nat} {sp : Nat -> Bool} {held : Bool} {r : Reach} {v : Value} {d : DataW H} {p : List MemPlace}
theorem open_tyF : ∀ (fuel : Nat) (cs : List Value) (x : DataW H × List MemPlace), DataW.trod enc Try.prog w base sp held fuel 32 cs = some x -> ∃ t, TyAt w (fun b => base <= b) t cs.toArray /\ 4 * t.nodes <= Rows.uptoBulk x.1 := by
 intro fuel
 induction fuel using Nat.strongRecOn with
 | _ fuel ih =>
  intro cs x h
  obtain ⟨f0, f1, f2, f3, hfs, e0, e1, e2, e3⟩ := four_fields tyNums.fl
  simp only [Prod.mk.injEq] at e0 e1 e2 e3
  have hu := tyNums.uT
  rw [hfs] at hu
  obtain ⟨xs, k, hkf, hxe, hxl, hxs, hf⟩ := DataW.trod_struct hu h
  rw [tyNums.cT] at hxl
  match cs, hxl with
  | [v0, v1, v2, v3], _ =>
   match xs, hxs with
   | [y0, y1, y2, y3], _ =>
    have g0 := hf 0 f0 rfl
    have g1 := hf 1 f1 rfl
    have g2 := hf 2 f2 rfl
    have g3 := hf 3 f3 rfl
    simp [e0, e1, e2, e3, tyNums.cI, tyNums.cS, tyNums.cL] at g0 g1 g2 g3
    obtain ⟨n0, q0, _, w0⟩ := DataW.trod_int tyNums.uI g0
    obtain ⟨s1, q1, _, w1⟩ := DataW.trod_string tyNums.uS g1
    obtain ⟨n2, q2, _, w2⟩ := DataW.trod_int tyNums.uI g2
    obtain ⟨A, len, cap, args, rows, q3, hl, hc, hm, hfo, z3⟩ := open_slW (n := 4) (Q := fun t row => TyAt w (fun b => base <= b) t row) tyNums.uL tyNums.cT (by omega) g3 (fun t : Ty => 4 * t.nodes) (fun m hm => ih m (by omega))
    simp at q0 q1 q2 q3
    subst q0 q1 q2 q3
    refine ⟨.node n0 s1 n2 args, TyAt.mk rows w0 w2 w1 hl hc hm (fun i t hi => (hfo i t hi).1) (fun i t hi => (hfo i t hi).2), ?_⟩
    rw [hxe]
    simp only [List.map_cons, List.map_nil, Rows.uptoBulk, Rows.uptoBulkAll, Ty.nodes]
    rw [sum_ty] at z3
    have b0 := bulk_pos y0.1
    have b1 := bulk_pos y1.1
    have b2 := bulk_pos y2.1
    omega
theorem open_vaF : ∀ (fuel : Nat) (cs : List Value) (x : DataW H × List MemPlace), DataW.trod enc Try.prog w base sp held fuel 35 cs = some x -> ∃ v, VAt w (fun b => base <= b) v cs.toArray /\ 4 * nodesF v <= Rows.uptoBulk x.1 := by
 intro fuel
 induction fuel using Nat.strongRecOn with
 | _ fuel ih =>
  intro cs x h
  obtain ⟨f0, f1, f2, f3, f4, f5, hfs, e0, e1, e2, e3, e4, e5⟩ := fields6 fl35
  simp only [Prod.mk.injEq] at e0 e1 e2 e3 e4 e5
  have hu := u35
  rw [hfs] at hu
  obtain ⟨xs, k, hkf, hxe, hxl, hxs, hf⟩ := DataW.trod_struct hu h
  rw [cells35] at hxl
  match cs, hxl with
  | [v0, v1, v2, v3, v4, v5, v6, v7, v8], _ =>
   match xs, hxs with
   | [y0, y1, y2, y3, y4, y5], _ =>
    have g0 := hf 0 f0 rfl
    have g1 := hf 1 f1 rfl
    have g2 := hf 2 f2 rfl
    have g3 := hf 3 f3 rfl
    have g4 := hf 4 f4 rfl
    have g5 := hf 5 f5 rfl
    simp [e0, e1, e2, e3, e4, e5, cells3, cells9, cells32, cells30, cells33] at g0 g1 g2 g3 g4 g5
    obtain ⟨n0, q0, _, w0⟩ := DataW.trod_int u3 g0
    obtain ⟨n1, q1, _, w1⟩ := DataW.trod_int u3 g1
    obtain ⟨s2, q2, _, w2⟩ := DataW.trod_string u9 g2
    obtain ⟨t3, h3, z3⟩ := open_tyF _ _ _ g3
    obtain ⟨A4, l4, c4, ts4, rows4, q4, a4, b4, d4, k4, z4⟩ := open_slW (n := 4) (Q := fun t row => TyAt w (fun b => base <= b) t row) tyNums.uL tyNums.cT (by omega) g4 (fun t : Ty => 4 * t.nodes) (fun m _ => open_tyF m)
    obtain ⟨A5, l5, c5, vs5, rows5, q5, a5, b5, d5, k5, z5⟩ := open_slW (n := 9) (Q := fun v row => VAt w (fun b => base <= b) v row) u33 cells35 (by omega) g5 (fun v : Va => 4 * nodesF v) (fun m hm => ih m (by omega))
    simp at q0 q1 q2 q4 q5
    subst q0 q1 q2 q4 q5
    refine ⟨.node n0 n1 s2 t3 ts4 vs5, VAt.of w0 w1 w2 h3 ⟨a4, b4, d4, rows4, fun i t hi => (k4 i t hi).1, fun i t hi => (k4 i t hi).2⟩ ⟨a5, b5, d5, rows5, fun i v hi => (k5 i v hi).1, fun i v hi => (k5 i v hi).2⟩, ?_⟩
    rw [hxe]
    simp only [List.map_cons, List.map_nil, Rows.uptoBulk, Rows.uptoBulkAll, nodesF]
    rw [sum_ty] at z4
    rw [sum_vaF] at z5
    have b0 := bulk_pos y0.1
    have b1 := bulk_pos y1.1
    have b2 := bulk_pos y2.1
    omega
theorem open_clF (fuel : Nat) (cs : List Value) (x : DataW H × List MemPlace) (h : DataW.trod enc Try.prog w base sp held fuel 37 cs = some x) : ∃ q rv rx tr A l c, ClAt w (fun b => base <= b) q cs.toArray rv rx tr A l c /\ clF q <= Rows.uptoBulk x.1 := by
 obtain ⟨f0, f1, f2, f3, f4, f5, f6, hfs, e0, e1, e2, e3, e4, e5, e6⟩ := fields7 fl37
 simp only [Prod.mk.injEq] at e0 e1 e2 e3 e4 e5 e6
 have hu := u37
 rw [hfs] at hu
 obtain ⟨xs, k, hkf, hxe, hxl, hxs, hf⟩ := DataW.trod_struct hu h
 rw [cells37] at hxl
 match cs, hxl with
 | [v0, v1, v2, v3, v4, v5, v6, v7, v8, v9, v10, v11, v12, v13, v14, v15, v16, v17, v18, v19, v20, v21, v22, v23, v24, v25], _ =>
  match xs, hxs with
  | [y0, y1, y2, y3, y4, y5, y6], _ =>
   have g0 := hf 0 f0 rfl
   have g1 := hf 1 f1 rfl
   have g2 := hf 2 f2 rfl
   have g3 := hf 3 f3 rfl
   have g4 := hf 4 f4 rfl
   have g5 := hf 5 f5 rfl
   have g6 := hf 6 f6 rfl
   simp [e0, e1, e2, e3, e4, e5, e6, cells3, cells35, cells32, cells33] at g0 g1 g2 g3 g4 g5 g6
   obtain ⟨n0, q0, _, w0⟩ := DataW.trod_int u3 g0
   obtain ⟨n1, q1, _, w1⟩ := DataW.trod_int u3 g1
   obtain ⟨n2, q2, _, w2⟩ := DataW.trod_int u3 g2
   obtain ⟨va, hva, z3⟩ := open_vaF _ _ _ g3
   obtain ⟨vx, hvx, z4⟩ := open_vaF _ _ _ g4
   obtain ⟨t5, h5, z5⟩ := open_tyF _ _ _ g5
   obtain ⟨A6, l6, c6, vs6, rows6, q6, a6, b6, d6, k6, z6⟩ := open_slW (n := 9) (Q := fun v row => VAt w (fun b => base <= b) v row) u33 cells35 (by omega) g6 (fun v : Va => 4 * nodesF v) (fun m hm => open_vaF m)
   simp at q0 q1 q2 q6
   subst q0 q1 q2 q6
   exact ⟨⟨n0, n1, n2, va, vx, t5, vs6⟩, _, _, _, A6, l6, c6, ⟨by simp [cell26], hva, hvx, h5, ⟨a6, b6, d6, rows6, fun i v hi => (k6 i v hi).1, fun i v hi => (k6 i v hi).2⟩, w0, w1, w2⟩, by
    rw [hxe]
    simp only [List.map_cons, List.map_nil, Rows.uptoBulk, Rows.uptoBulkAll, clF]
    rw [sum_vaF] at z6
    omega⟩
theorem open_callsF (hv : Value.okWide Try.prog w r b0 23 v) (h : DataW.Trod enc Try.prog w base sp held 23 v d p) : ∃ A l c qs, v = .slice A l c /\ ClsAt w (fun b => base <= b) qs A l c /\ ∀ q, q ∈ qs -> clF q <= Rows.uptoBulk d := by
 obtain ⟨A, l, c, rfl⟩ := okWide_slice u23 hv
 obtain ⟨fuel, hf⟩ := h
 obtain ⟨A', l', c', qs, rows, hcs, h1, h2, h3, h4, hz⟩ := open_slW (n := 26) (Q := fun q row => ∃ rv rx tr A l c, ClAt w (fun b => base <= b) q row rv rx tr A l c) u23 cells37 (by omega) hf clF (fun m _ cs x hx => by
  obtain ⟨q, rv, rx, tr, A, l, c, e1, e2⟩ := open_clF m cs x hx
  exact ⟨q, ⟨rv, rx, tr, A, l, c, e1⟩, e2⟩)
 simp [Value.cells] at hcs
 obtain ⟨rfl, rfl, rfl⟩ := hcs
 refine ⟨_, _, _, qs, rfl, ⟨h1, h2, h3, fun i q hi => ?_⟩, fun q hq => Nat.le_trans (sumN_memb (f := clF) hq) hz⟩
 obtain ⟨⟨b, off, Cs, t, fr, g1, g2, g3, g4⟩, rv, rx, tr, A', l', c', g5⟩ := h4 i q hi
 exact ⟨b, off, Cs, t, fr, rows i, rv, rx, tr, A', l', c', g1, g2, g3, g4, g5⟩
end
theorem clF_fit {q : Cl} (h : clF q <= 1048576) : ClFit q /\ wVs q.l <= 1048576 /\ wV q.v <= 1048576 /\ wV q.x <= 1048576 := by
 unfold clF at h
 have h1 := wV_nodesF q.v
 have h2 := wV_nodesF q.x
 have h3 := wVs_nodesFs q.l
 refine ⟨⟨?_, ?_, ?_, fun u hu => ?_⟩, by omega, by omega, by omega⟩
 ·unfold VaFit; omega
 ·unfold VaFit; omega
 ·unfold TyFit; omega
 ·have := mem_nodesF hu
  unfold VaFit; omega
end Go.Proofs.Ytpamocglecangaa
