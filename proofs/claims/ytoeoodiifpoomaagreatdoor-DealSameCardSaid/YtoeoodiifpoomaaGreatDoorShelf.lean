/-
 DERIVED: THE SHELF's CONTRACTS AT THIS DUMP, IN PLAIN WORDS (tools/lay-plain.mjs out of 'YtoeoodiifpoomaaGreatDoorShelf.lean', which tools/lay-shelf.mjs wrote): THE SAME DECLARATIONS UNDER THE SAME NAMES: 'import', 'namespace', 'open', 'def', 'theorem' AND NOTHING ELSE: no command of the shelf's: FOR A HAND-IN. Each laying: the table of numbers ('.._ren') and one theorem, a field a fact of the dump's own or the kernel's comparison; each contract: ONE APPLICATION.
-/
import Derived.Shelf.Sort.Plain
import Derived.Shelf.Slices.CompactS
import Derived.Shelf.Slices.In.SortNone
import Derived.Test.YtoeoodiifpoomaaGreatDoorProg
namespace Go.Proofs
open Go.Shelf
def Tryz.lays190_ren : Go.Shelf.Ren := ⟨fun | 190 => 70 | 125 => 111 | 258 => 110 | 128 => 158 | 129 => 159 | 302 => 149 | 303 => 150 | 304 => 151 | 305 => 152 | 306 => 153 | 307 => 154 | 308 => 155 | 309 => 156 | 310 => 157 | 333 => 177 | 329 => 178 | 330 => 179 | 334 => 180 | 335 => 181 | 336 => 182 | 344 => 191 | n => n, fun | 31 => 54 | 9 => 9 | 3 => 3 | 46 => 148 | 0 => 0 | 51 => 191 | 53 => 117 | 4 => 4 | 183 => 183 | 182 => 182 | 131 => 188 | 5 => 5 | 218 => 203 | 222 => 206 | 228 => 213 | 229 => 30 | n => n, fun | n => n⟩
theorem Tryz.lays190 : Go.Proofs.Lays.n190 Tryz.prog Tryz.lays190_ren := {
 mixed := by kernel_rfl
 f125 := Tryz.func111.trans (congrArg some (by kernel_rfl))
 f128 := Tryz.func158.trans (congrArg some (by kernel_rfl))
 f129 := Tryz.func159.trans (congrArg some (by kernel_rfl))
 f190 := Tryz.func70.trans (congrArg some (by kernel_rfl))
 f258 := Tryz.func110.trans (congrArg some (by kernel_rfl))
 f302 := Tryz.func149.trans (congrArg some (by kernel_rfl))
 f303 := Tryz.func150.trans (congrArg some (by kernel_rfl))
 f304 := Tryz.func151.trans (congrArg some (by kernel_rfl))
 f305 := Tryz.func152.trans (congrArg some (by kernel_rfl))
 f306 := Tryz.func153.trans (congrArg some (by kernel_rfl))
 f307 := Tryz.func154.trans (congrArg some (by kernel_rfl))
 f308 := Tryz.func155.trans (congrArg some (by kernel_rfl))
 f309 := Tryz.func156.trans (congrArg some (by kernel_rfl))
 f310 := Tryz.func157.trans (congrArg some (by kernel_rfl))
 f329 := Tryz.func178.trans (congrArg some (by kernel_rfl))
 f330 := Tryz.func179.trans (congrArg some (by kernel_rfl))
 f333 := Tryz.func177.trans (congrArg some (by kernel_rfl))
 f334 := Tryz.func180.trans (congrArg some (by kernel_rfl))
 f335 := Tryz.func181.trans (congrArg some (by kernel_rfl))
 f336 := Tryz.func182.trans (congrArg some (by kernel_rfl))
 f344 := Tryz.func191.trans (congrArg some (by kernel_rfl))
 t0 := Tryz.underlying0
 a0 := Tryz.isAgg0
 z0 := Tryz.sizeOf0
 v0 := Tryz.zeroValue0
 t3 := Tryz.underlying3
 a3 := Tryz.isAgg3
 z3 := Tryz.sizeOf3
 v3 := Tryz.zeroValue3
 t4 := Tryz.underlying4
 a4 := Tryz.isAgg4
 z4 := Tryz.sizeOf4
 v4 := Tryz.zeroValue4
 t5 := Tryz.underlying5
 a5 := Tryz.isAgg5
 z5 := Tryz.sizeOf5
 v5 := Tryz.zeroValue5
 t9 := Tryz.underlying9
 a9 := Tryz.isAgg9
 z9 := Tryz.sizeOf9
 v9 := Tryz.zeroValue9
 t31 := Tryz.underlying54
 a31 := Tryz.isAgg54
 z31 := Tryz.sizeOf54
 v31 := Tryz.zeroValue54
 t46 := Tryz.underlying148
 a46 := Tryz.isAgg148
 z46 := Tryz.sizeOf148
 v46 := Tryz.zeroValue148
 t51 := Tryz.underlying191
 a51 := Tryz.isAgg191
 z51 := Tryz.sizeOf191
 v51 := Tryz.zeroValue191
 t53 := Tryz.underlying117
 a53 := Tryz.isAgg117
 z53 := Tryz.sizeOf117
 v53 := Tryz.zeroValue117
 t131 := Tryz.underlying188
 a131 := Tryz.isAgg188
 z131 := Tryz.sizeOf188
 v131 := Tryz.zeroValue188
 t182 := Tryz.underlying182
 a182 := Tryz.isAgg182
 z182 := Tryz.sizeOf182
 v182 := Tryz.zeroValue182
 t183 := Tryz.underlying183
 a183 := Tryz.isAgg183
 z183 := Tryz.sizeOf183
 v183 := Tryz.zeroValue183
 t218 := Tryz.underlying203
 a218 := Tryz.isAgg203
 z218 := Tryz.sizeOf203
 v218 := Tryz.zeroValue203
 t222 := Tryz.underlying206
 a222 := Tryz.isAgg206
 z222 := Tryz.sizeOf206
 v222 := Tryz.zeroValue206
 t228 := Tryz.underlying213
 a228 := Tryz.isAgg213
 z228 := Tryz.sizeOf213
 v228 := Tryz.zeroValue213
 t229 := Tryz.underlying30
 a229 := Tryz.isAgg30
 z229 := Tryz.sizeOf30
 v229 := Tryz.zeroValue30 }
open Go.Sort Go.RowKit in
theorem Tryz.slices_Sort_string (blk off cap : Nat) (ss : List (List UInt8)) (w : World) (hH : Holds encStr w blk off ss.toArray) (hblk : blk < w.heap.size) (hsz : ss.length < 4611686018427387904) :
  Calls Tryz.prog 70 #[.slice (some ⟨blk, off, none⟩) ss.length cap] w fun e w' =>
   e = .returned (.tuple #[]) ∧ ∃ n os, w' = grow (putRow encStr (Sort.ahead w n) blk off (ss.mergeSort fun x y => decide (x ≤ y)).toArray) os := Any.slices_Sort_string Tryz.lays190 blk off cap ss w hH hblk hsz
def Tryz.lays194_ren : Go.Shelf.Ren := ⟨fun | 194 => 71 | n => n, fun | 31 => 54 | 9 => 9 | 3 => 3 | 4 => 4 | 0 => 0 | n => n, fun | n => n⟩
theorem Tryz.lays194 : Go.Proofs.Lays.n194 Tryz.prog Tryz.lays194_ren := {
 mixed := by kernel_rfl
 f194 := Tryz.func71.trans (congrArg some (by kernel_rfl))
 t0 := Tryz.underlying0
 a0 := Tryz.isAgg0
 z0 := Tryz.sizeOf0
 v0 := Tryz.zeroValue0
 t3 := Tryz.underlying3
 a3 := Tryz.isAgg3
 z3 := Tryz.sizeOf3
 v3 := Tryz.zeroValue3
 t4 := Tryz.underlying4
 a4 := Tryz.isAgg4
 z4 := Tryz.sizeOf4
 v4 := Tryz.zeroValue4
 t9 := Tryz.underlying9
 a9 := Tryz.isAgg9
 z9 := Tryz.sizeOf9
 v9 := Tryz.zeroValue9
 t31 := Tryz.underlying54
 a31 := Tryz.isAgg54
 z31 := Tryz.sizeOf54
 v31 := Tryz.zeroValue54 }
open Go.RowKit Go.Lib Go.Sort in
open Go.RowKit Go.Lib Go.Sort in
theorem Tryz.slices_Compact_string (blk off cap : Nat) (zs : List (List UInt8)) (w : World) (hH : Holds encStr w blk off zs.toArray) (hsz : zs.length ≤ 9223372036854775807) (hcap : zs.length ≤ cap) :
  Calls Tryz.prog 71 #[.slice (some ⟨blk, off, none⟩) zs.length cap] w fun e w' => e = .returned (.slice (some ⟨blk, off, none⟩) (Lib.compact zs).length cap) ∧ ∃ q, w' = putRow encStr (Sort.ahead w q) blk off (Lib.compact zs ++ List.replicate (zs.length - (Lib.compact zs).length) []).toArray := Any.slices_Compact_string Tryz.lays194 blk off cap zs w hH hsz hcap
open Go.RowKit Go.Lib Go.Sort in
theorem Tryz.slices_Compact_string_empty (a : Option Addr) (cap : Nat) (w : World) :
  Calls Tryz.prog 71 #[.slice a 0 cap] w fun e w' => e = .returned (.slice a 0 cap) ∧ w' = w := Any.slices_Compact_string_empty Tryz.lays194 a cap w
open Go.RowKit Go.Sort in
theorem Tryz.slices_Sort_string_none (p : Option Addr) (cap : Nat) (w : World) :
  Calls Tryz.prog 70 #[.slice p 0 cap] w fun e w' => e = .returned (.tuple #[]) ∧ w' = w := Any.slices_Sort_string_none Tryz.lays190 p cap w
end Go.Proofs
