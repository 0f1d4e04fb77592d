/- The row of StoreAsks. -/
import Derived.Test.YtbhdgeoljlhmcaaQB10
import Derived.Test.YtbhdgeoljlhmcaaQB34
namespace Go.Proofs.Ytbhdgeoljlhmcaa
open Go.ChangeShapes Go.WideShapes Go.ChangeAt Go.RowKit
section
variable {H : Type} {enc : TypeId × Value → H} {w : World} {base b0 : Nat} {sp : Nat → Bool} {held : Bool} {r : Reach} {v : Value} {d : DataW H} {p : List MemPlace}
theorem flds75 : (Try.prog.fieldsOf 75).toList.map (fun f => (f.type, f.offset)) = [(3, 0), (3, 1), (3, 2), (9, 3)] := by kernel_rfl
theorem row_u75 : Try.prog.underlying 75 = some (.struct (Try.prog.fieldsOf 75)) := by kernel_rfl
theorem cells75 : Try.prog.cellsOf 75 = 4 := by kernel_rfl
theorem fields4 {fs : Array Field} {a b c d : Nat × Nat} (h : fs.toList.map (fun f => (f.type, f.offset)) = [a, b, c, d]) : ∃ f0 f1 f2 f3, fs = #[f0, f1, f2, f3] ∧ (f0.type, f0.offset) = a ∧ (f1.type, f1.offset) = b ∧ (f2.type, f2.offset) = c ∧ (f3.type, f3.offset) = d := by
  obtain ⟨l⟩ := fs
  match l, h with
  | [f0, f1, f2, f3], h => simp at h; exact ⟨f0, f1, f2, f3, rfl, by simp [h.1], by simp [h.2.1], by simp [h.2.2.1], by simp [h.2.2.2]⟩
set_option maxRecDepth 100000 in
theorem open_ask (hv : Value.okWide Try.prog w r b0 75 v) (h : DataW.Trod enc Try.prog w base sp held 75 v d p) :
    ∃ (a b i : Int) (k : ByteArray), v = .agg (xcells a b i k) := by
  obtain ⟨f0, f1, f2, f3, hfs, e0, e1, e2, e3⟩ := fields4 flds75
  simp only [Prod.mk.injEq] at e0 e1 e2 e3
  have hu := row_u75
  obtain ⟨cs, rfl, hsz⟩ := okWide_struct hu hv
  rw [cells75] at hsz
  rw [hfs] at hu
  obtain ⟨fuel, hf⟩ := h
  obtain ⟨xs, m, hm, hxy, _, hxl, hall⟩ := DataW.trod_struct hu hf
  obtain ⟨l⟩ := cs
  match l, hsz with
  | [v0, v1, v2, v3], _ =>
    match xs, hxl with
    | [y0, y1, y2, y3], _ =>
      have g0 := hall 0 f0 rfl
      have g1 := hall 1 f1 rfl
      have g2 := hall 2 f2 rfl
      have g3 := hall 3 f3 rfl
      simp [Value.cells, e0, e1, e2, e3, cells3, cells9] at g0 g1 g2 g3
      obtain ⟨n0, q0, _, _⟩ := DataW.trod_int row_u3 g0
      obtain ⟨n1, q1, _, _⟩ := DataW.trod_int row_u3 g1
      obtain ⟨n2, q2, _, _⟩ := DataW.trod_int row_u3 g2
      obtain ⟨k3, q3, _⟩ := DataW.trod_string row_u9 g3
      simp at q0 q1 q2 q3
      subst q0 q1 q2 q3
      exact ⟨n0, n1, n2, k3, rfl⟩
end
set_option maxRecDepth 100000 in
theorem storeAsks_lifted (os : Os) (started : os.Started) (H : Type) (enc : TypeId × Value → H) :
    ReturnsInHanded Rows.storeAsksRow.assume Try.checked os 12 .any (Rows.storeAsksSpec.pre6 enc Try.prog Try.f12 Rows.storeAsksRow.domain false) (Rows.storeAsksSpec.post enc Try.prog Try.f12 false true false false) := by
  refine returnsInHanded_of_change (C := Try.checked) own0 started (by kernel_rfl) Try.func12
    (ChangeSpec.witness6 (enc := enc) (C := Try.checked) false ⟨#[], #[.slice none 0 0, .agg #[.int .i64 0, .int .i64 0, .int .i64 0, .string ⟨#[]⟩]], []⟩ 8 (by kernel_rfl) (by kernel_rfl) (by kernel_rfl) (by kernel_rfl)) ?_
  intro W base args ds gs before hval0 hW hcnd _
  have hval : ∀ (j : Nat) t v, Try.f12.params[j]? = some t → args[j]? = some v → Value.okWide Try.prog W .any base t v := hval0
  have hW' := hW
  have hlt := hW.lt
  obtain ⟨p, q, hA0, hV, rfl, hfz, hnd⟩ := hW
  have hA : DataW.TrodAll enc Try.prog W 0 (fun _ => true) true Try.f12.params.toList args.toList ds p := hA0
  rw [Try.params12] at hA hval
  obtain ⟨v0, v1, d0, d1, p0, p1, rfl, rfl, rfl, h0, h1⟩ := trodAll_two hA
  obtain ⟨rfl, rfl⟩ := trodVars_none hV
  have q0 := fun {W' : World} (hb : Below W.heap.size W W') => Below.trod laidOut0 (by kernel_rfl) (of_decide_eq_true (by kernel_rfl)) h0 hb (fun x hx => hlt x (by simp [hx]))
  have q1 := fun {W' : World} (hb : Below W.heap.size W W') => Below.trod laidOut0 (by kernel_rfl) (of_decide_eq_true (by kernel_rfl)) h1 hb (fun x hx => hlt x (by simp [hx]))
  obtain ⟨A0, n0, c0, l0, rfl, ho0, hc0⟩ := open_ops (hval 0 22 v0 rfl rfl) h0
  obtain ⟨xa, xb, xi, xk, rfl⟩ := open_ask (hval 1 75 v1 rfl rfl) h1
  refine (StoreAsks_any A0 n0 c0 l0 xa xb xi xk W ho0).mono fun e W' ⟨he, hb⟩ => ?_
  subst he
  refine ⟨_, rfl, _, _, _, [], p0 ++ p1, [], hW', ?_, ?_, ?_, hb.frame _, fun h => by cases h⟩
  · exact trodAll_mk1 (RowKit.shut_bool row_u4 true)
  · exact trodAll_mk2 (q0 hb) (q1 hb)
  · rfl
theorem storeAsks_holds : Rows.StoreAsksSaid :=
  OpenClaim.holds_of_wide 12 Try.f12 rfl rfl rfl rfl rfl rfl rfl ⟨rfl, rfl, rfl, rfl, rfl⟩ rfl rfl rfl rfl rfl (by kernel_rfl) Try.func12 (by kernel_rfl)
    (of_decide_eq_true (by kernel_rfl)) (by unfold Func.isWrapper; first | (rw [if_pos (by decide +kernel)]; kernel_rfl) | (rw [if_neg (by decide +kernel)]; exact ⟨rfl, rfl⟩))
    (fun os started H enc _ => storeAsks_lifted os started H enc)
end Go.Proofs.Ytbhdgeoljlhmcaa
