/- Contracts of the shelf at this dump, in plain words (written by the kit's own tools; those that are wanted). -/
import Derived.Shelf.LaysM
import Derived.Shelf.Sort.Plain
import Derived.Shelf.Slices.CompactS
import Derived.Shelf.Slices.In.SortNone
import Derived.Test.YtokmaehefenpmaaDoorProg
namespace Go.Proofs
open Go.Shelf
def Tryd.lays190_ren : Go.Shelf.Ren := ⟨fun | 190 => 96 | 125 => 117 | 258 => 116 | 128 => 144 | 129 => 145 | 302 => 135 | 303 => 136 | 304 => 137 | 305 => 138 | 306 => 139 | 307 => 140 | 308 => 141 | 309 => 142 | 310 => 143 | 333 => 157 | 329 => 158 | 330 => 159 | 334 => 160 | 335 => 161 | 336 => 162 | 344 => 178 | n => n, fun | 31 => 25 | 9 => 9 | 3 => 3 | 46 => 131 | 0 => 0 | 51 => 155 | 53 => 157 | 4 => 4 | 183 => 148 | 182 => 147 | 131 => 114 | 5 => 5 | 218 => 170 | 222 => 174 | 228 => 189 | 229 => 190 | n => n, fun | n => n⟩
theorem Tryd.lays190 : Go.Proofs.Lays.n190 Tryd.prog Tryd.lays190_ren := {
  mixed := by kernel_rfl
  f125 := Tryd.func117.trans (congrArg some (by kernel_rfl))
  f128 := Tryd.func144.trans (congrArg some (by kernel_rfl))
  f129 := Tryd.func145.trans (congrArg some (by kernel_rfl))
  f190 := Tryd.func96.trans (congrArg some (by kernel_rfl))
  f258 := Tryd.func116.trans (congrArg some (by kernel_rfl))
  f302 := Tryd.func135.trans (congrArg some (by kernel_rfl))
  f303 := Tryd.func136.trans (congrArg some (by kernel_rfl))
  f304 := Tryd.func137.trans (congrArg some (by kernel_rfl))
  f305 := Tryd.func138.trans (congrArg some (by kernel_rfl))
  f306 := Tryd.func139.trans (congrArg some (by kernel_rfl))
  f307 := Tryd.func140.trans (congrArg some (by kernel_rfl))
  f308 := Tryd.func141.trans (congrArg some (by kernel_rfl))
  f309 := Tryd.func142.trans (congrArg some (by kernel_rfl))
  f310 := Tryd.func143.trans (congrArg some (by kernel_rfl))
  f329 := Tryd.func158.trans (congrArg some (by kernel_rfl))
  f330 := Tryd.func159.trans (congrArg some (by kernel_rfl))
  f333 := Tryd.func157.trans (congrArg some (by kernel_rfl))
  f334 := Tryd.func160.trans (congrArg some (by kernel_rfl))
  f335 := Tryd.func161.trans (congrArg some (by kernel_rfl))
  f336 := Tryd.func162.trans (congrArg some (by kernel_rfl))
  f344 := Tryd.func178.trans (congrArg some (by kernel_rfl))
  t0 := Tryd.underlying0
  a0 := Tryd.isAgg0
  z0 := Tryd.sizeOf0
  v0 := Tryd.zeroValue0
  t3 := Tryd.underlying3
  a3 := Tryd.isAgg3
  z3 := Tryd.sizeOf3
  v3 := Tryd.zeroValue3
  t4 := Tryd.underlying4
  a4 := Tryd.isAgg4
  z4 := Tryd.sizeOf4
  v4 := Tryd.zeroValue4
  t5 := Tryd.underlying5
  a5 := Tryd.isAgg5
  z5 := Tryd.sizeOf5
  v5 := Tryd.zeroValue5
  t9 := Tryd.underlying9
  a9 := Tryd.isAgg9
  z9 := Tryd.sizeOf9
  v9 := Tryd.zeroValue9
  t31 := Tryd.underlying25
  a31 := Tryd.isAgg25
  z31 := Tryd.sizeOf25
  v31 := Tryd.zeroValue25
  t46 := Tryd.underlying131
  a46 := Tryd.isAgg131
  z46 := Tryd.sizeOf131
  v46 := Tryd.zeroValue131
  t51 := Tryd.underlying155
  a51 := Tryd.isAgg155
  z51 := Tryd.sizeOf155
  v51 := Tryd.zeroValue155
  t53 := Tryd.underlying157
  a53 := Tryd.isAgg157
  z53 := Tryd.sizeOf157
  v53 := Tryd.zeroValue157
  t131 := Tryd.underlying114
  a131 := Tryd.isAgg114
  z131 := Tryd.sizeOf114
  v131 := Tryd.zeroValue114
  t182 := Tryd.underlying147
  a182 := Tryd.isAgg147
  z182 := Tryd.sizeOf147
  v182 := Tryd.zeroValue147
  t183 := Tryd.underlying148
  a183 := Tryd.isAgg148
  z183 := Tryd.sizeOf148
  v183 := Tryd.zeroValue148
  t218 := Tryd.underlying170
  a218 := Tryd.isAgg170
  z218 := Tryd.sizeOf170
  v218 := Tryd.zeroValue170
  t222 := Tryd.underlying174
  a222 := Tryd.isAgg174
  z222 := Tryd.sizeOf174
  v222 := Tryd.zeroValue174
  t228 := Tryd.underlying189
  a228 := Tryd.isAgg189
  z228 := Tryd.sizeOf189
  v228 := Tryd.zeroValue189
  t229 := Tryd.underlying190
  a229 := Tryd.isAgg190
  z229 := Tryd.sizeOf190
  v229 := Tryd.zeroValue190 }
open Go.Sort Go.RowKit in
theorem Tryd.slices_Sort_string (blk off cap : Nat) (ss : List (List UInt8)) (w : World) (hH : Holds encStr w blk off ss.toArray) (hblk : blk < w.heap.size) (hsz : ss.length < 4611686018427387904) :
    Calls Tryd.prog 96 #[.slice (some ⟨blk, off, none⟩) ss.length cap] w fun e w' =>
      e = .returned (.tuple #[]) ∧ ∃ n os, w' = grow (putRow encStr (Sort.ahead w n) blk off (ss.mergeSort fun x y => decide (x ≤ y)).toArray) os := Any.slices_Sort_string Tryd.lays190 blk off cap ss w hH hblk hsz
def Tryd.lays194_ren : Go.Shelf.Ren := ⟨fun | 194 => 97 | n => n, fun | 31 => 25 | 9 => 9 | 3 => 3 | 4 => 4 | 0 => 0 | n => n, fun | n => n⟩
theorem Tryd.lays194 : Go.Proofs.Lays.n194 Tryd.prog Tryd.lays194_ren := {
  mixed := by kernel_rfl
  f194 := Tryd.func97.trans (congrArg some (by kernel_rfl))
  t0 := Tryd.underlying0
  a0 := Tryd.isAgg0
  z0 := Tryd.sizeOf0
  v0 := Tryd.zeroValue0
  t3 := Tryd.underlying3
  a3 := Tryd.isAgg3
  z3 := Tryd.sizeOf3
  v3 := Tryd.zeroValue3
  t4 := Tryd.underlying4
  a4 := Tryd.isAgg4
  z4 := Tryd.sizeOf4
  v4 := Tryd.zeroValue4
  t9 := Tryd.underlying9
  a9 := Tryd.isAgg9
  z9 := Tryd.sizeOf9
  v9 := Tryd.zeroValue9
  t31 := Tryd.underlying25
  a31 := Tryd.isAgg25
  z31 := Tryd.sizeOf25
  v31 := Tryd.zeroValue25 }
open Go.RowKit Go.Lib Go.Sort in
theorem Tryd.slices_Compact_string (blk off cap : Nat) (zs : List (List UInt8)) (w : World) (hH : Holds encStr w blk off zs.toArray) (hsz : zs.length ≤ 9223372036854775807) (hcap : zs.length ≤ cap) :
    Calls Tryd.prog 97 #[.slice (some ⟨blk, off, none⟩) zs.length cap] w fun e w' => e = .returned (.slice (some ⟨blk, off, none⟩) (Lib.compact zs).length cap) ∧ ∃ q, w' = putRow encStr (Sort.ahead w q) blk off (Lib.compact zs ++ List.replicate (zs.length - (Lib.compact zs).length) []).toArray := Any.slices_Compact_string Tryd.lays194 blk off cap zs w hH hsz hcap
open Go.RowKit Go.Lib Go.Sort in
theorem Tryd.slices_Compact_string_empty (a : Option Addr) (cap : Nat) (w : World) :
    Calls Tryd.prog 97 #[.slice a 0 cap] w fun e w' => e = .returned (.slice a 0 cap) ∧ w' = w := Any.slices_Compact_string_empty Tryd.lays194 a cap w
theorem Tryd.slices_Sort_string_none (p : Option Addr) (cap : Nat) (w : World) : Calls Tryd.prog 96 #[.slice p 0 cap] w fun e w' => e = .returned (.tuple #[]) ∧ w' = w := Any.slices_Sort_string_none Tryd.lays190 p cap w
end Go.Proofs
