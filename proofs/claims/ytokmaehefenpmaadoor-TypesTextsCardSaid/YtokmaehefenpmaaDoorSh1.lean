/- Contracts of the shelf at this dump, in plain words (written by the kit's own tools; those that are wanted). -/
import Derived.Shelf.Strings.BuilderK
import Derived.Shelf.LaysM
import Derived.Shelf.Strconv.Itoa3
import Derived.Test.YtokmaehefenpmaaDoorProg
namespace Go.Proofs
open Go.Shelf
def Tryd.lays169_ren : Go.Shelf.Ren := ⟨fun | 169 => 61 | n => n, fun | 70 => 72 | 9 => 9 | 0 => 0 | 72 => 74 | 37 => 57 | 127 => 110 | 3 => 3 | 5 => 5 | n => n, fun | n => n⟩
theorem Tryd.lays169 : Go.Proofs.Lays.n169 Tryd.prog Tryd.lays169_ren := {
  mixed := by kernel_rfl
  f169 := Tryd.func61.trans (congrArg some (by kernel_rfl))
  t0 := Tryd.underlying0
  a0 := Tryd.isAgg0
  z0 := Tryd.sizeOf0
  v0 := Tryd.zeroValue0
  t3 := Tryd.underlying3
  a3 := Tryd.isAgg3
  z3 := Tryd.sizeOf3
  v3 := Tryd.zeroValue3
  t9 := Tryd.underlying9
  a9 := Tryd.isAgg9
  z9 := Tryd.sizeOf9
  v9 := Tryd.zeroValue9
  t37 := Tryd.underlying57
  a37 := Tryd.isAgg57
  z37 := Tryd.sizeOf57
  v37 := Tryd.zeroValue57
  t70 := Tryd.underlying72
  a70 := Tryd.isAgg72
  z70 := Tryd.sizeOf72
  v70 := Tryd.zeroValue72
  t72 := Tryd.underlying74
  a72 := Tryd.isAgg74
  z72 := Tryd.sizeOf74
  v72 := Tryd.zeroValue74
  t127 := Tryd.underlying110
  a127 := Tryd.isAgg110
  z127 := Tryd.sizeOf110
  v127 := Tryd.zeroValue110 }
theorem Tryd.Builder_Extra_169 : Builder.Extra Tryd.prog Tryd.lays169_ren := {
  sizeBuilder := by kernel_rfl
  liesBuilder := by kernel_rfl
  t5 := Tryd.underlying5
  a5 := Tryd.isAgg5
  z5 := Tryd.sizeOf5
  v5 := Tryd.zeroValue5
  infoByte := by kernel_rfl
  cellsByte := by kernel_rfl
  sizeByte := by kernel_rfl
  neB5 := by decide }
open Go.RowKit in
theorem Tryd.Builder_String_any_k (B b : Nat) (l : List UInt8) (w : World) (h : Lib.IsBuilderF 74 5 B b (Lib.byteCells l) w) (hBw : B ≤ w.heap.size) :
    Calls Tryd.prog 61 #[.pointer (some ⟨b, 0, none⟩)] w fun e w' => e = .returned (.string ⟨l.toArray⟩) ∧ (Lib.IsBuilderF 74 5 B b (Lib.byteCells l) w' ∧ Below B w w' ∧ Lib.OthersKept 5 (some b) w w') := Any.Builder_String_any_k Tryd.lays169 Tryd.Builder_Extra_169 B b l w h hBw
def Tryd.lays171_ren : Go.Shelf.Ren := ⟨fun | 171 => 81 | 243 => 107 | 246 => 126 | 283 => 149 | 284 => 150 | 285 => 151 | 286 => 152 | 129 => 145 | 317 => 172 | 318 => 173 | 319 => 174 | 320 => 175 | 337 => 182 | 338 => 183 | n => n, fun | 3 => 3 | 9 => 9 | 2 => 2 | 4 => 4 | 171 => 160 | 0 => 0 | 53 => 157 | 37 => 57 | 5 => 5 | 173 => 162 | 212 => 183 | 51 => 155 | 20 => 20 | 213 => 184 | 46 => 131 | 232 => 195 | 233 => 196 | n => n, fun | 17 => 3 | 18 => 4 | 19 => 5 | n => n⟩
theorem Tryd.lays171 : Go.Proofs.Lays.n171 Tryd.prog Tryd.lays171_ren := {
  mixed := by kernel_rfl
  f129 := Tryd.func145.trans (congrArg some (by kernel_rfl))
  f171 := Tryd.func81.trans (congrArg some (by kernel_rfl))
  f243 := Tryd.func107.trans (congrArg some (by kernel_rfl))
  f246 := Tryd.func126.trans (congrArg some (by kernel_rfl))
  f283 := Tryd.func149.trans (congrArg some (by kernel_rfl))
  f284 := Tryd.func150.trans (congrArg some (by kernel_rfl))
  f285 := Tryd.func151.trans (congrArg some (by kernel_rfl))
  f286 := Tryd.func152.trans (congrArg some (by kernel_rfl))
  f317 := Tryd.func172.trans (congrArg some (by kernel_rfl))
  f318 := Tryd.func173.trans (congrArg some (by kernel_rfl))
  f319 := Tryd.func174.trans (congrArg some (by kernel_rfl))
  f320 := Tryd.func175.trans (congrArg some (by kernel_rfl))
  f337 := Tryd.func182.trans (congrArg some (by kernel_rfl))
  f338 := Tryd.func183.trans (congrArg some (by kernel_rfl))
  t0 := Tryd.underlying0
  a0 := Tryd.isAgg0
  z0 := Tryd.sizeOf0
  v0 := Tryd.zeroValue0
  t2 := Tryd.underlying2
  a2 := Tryd.isAgg2
  z2 := Tryd.sizeOf2
  v2 := Tryd.zeroValue2
  t3 := Tryd.underlying3
  a3 := Tryd.isAgg3
  z3 := Tryd.sizeOf3
  v3 := Tryd.zeroValue3
  t4 := Tryd.underlying4
  a4 := Tryd.isAgg4
  z4 := Tryd.sizeOf4
  v4 := Tryd.zeroValue4
  t5 := Tryd.underlying5
  a5 := Tryd.isAgg5
  z5 := Tryd.sizeOf5
  v5 := Tryd.zeroValue5
  t9 := Tryd.underlying9
  a9 := Tryd.isAgg9
  z9 := Tryd.sizeOf9
  v9 := Tryd.zeroValue9
  t20 := Tryd.underlying20
  a20 := Tryd.isAgg20
  z20 := Tryd.sizeOf20
  v20 := Tryd.zeroValue20
  t37 := Tryd.underlying57
  a37 := Tryd.isAgg57
  z37 := Tryd.sizeOf57
  v37 := Tryd.zeroValue57
  t46 := Tryd.underlying131
  a46 := Tryd.isAgg131
  z46 := Tryd.sizeOf131
  v46 := Tryd.zeroValue131
  t51 := Tryd.underlying155
  a51 := Tryd.isAgg155
  z51 := Tryd.sizeOf155
  v51 := Tryd.zeroValue155
  t53 := Tryd.underlying157
  a53 := Tryd.isAgg157
  z53 := Tryd.sizeOf157
  v53 := Tryd.zeroValue157
  t171 := Tryd.underlying160
  a171 := Tryd.isAgg160
  z171 := Tryd.sizeOf160
  v171 := Tryd.zeroValue160
  t173 := Tryd.underlying162
  a173 := Tryd.isAgg162
  z173 := Tryd.sizeOf162
  v173 := Tryd.zeroValue162
  t212 := Tryd.underlying183
  a212 := Tryd.isAgg183
  z212 := Tryd.sizeOf183
  v212 := Tryd.zeroValue183
  t213 := Tryd.underlying184
  a213 := Tryd.isAgg184
  z213 := Tryd.sizeOf184
  t232 := Tryd.underlying195
  a232 := Tryd.isAgg195
  z232 := Tryd.sizeOf195
  v232 := Tryd.zeroValue195
  t233 := Tryd.underlying196
  a233 := Tryd.isAgg196
  z233 := Tryd.sizeOf196
  v233 := Tryd.zeroValue196
  g17 := by kernel_rfl
  g18 := by kernel_rfl
  g19 := by kernel_rfl }
open Go.RowKit Go.Sort Go.Lib in
theorem Tryd.strconv_Itoa_small (i : Nat) (hi : i < 100) (w : World) :
    Calls Tryd.prog 81 #[.int .i64 i] w fun e w' => e = .returned (.string ⟨(Lib.decDigits i).toArray⟩) ∧ w' = w := Any.strconv_Itoa_small Tryd.lays171 i hi w
end Go.Proofs
