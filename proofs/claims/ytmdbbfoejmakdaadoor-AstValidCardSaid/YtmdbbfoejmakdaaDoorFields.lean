/-
  DERIVED: THE SHELF's CONTRACTS AT THIS DUMP, IN PLAIN WORDS (tools/lay-plain.mjs out of 'TrydFields.lean', which tools/lay-shelf.mjs wrote): THE SAME DECLARATIONS UNDER THE SAME NAMES: 'import', 'namespace', 'open', 'def', 'theorem' AND NOTHING ELSE: no command of the shelf's: FOR A HAND-IN. Each laying: the table of numbers ('.._ren') and one theorem, a field a fact of the dump's own or the kernel's comparison; each contract: ONE APPLICATION.
-/
import Derived.Shelf.Strings.Fields
import Derived.Test.YtmdbbfoejmakdaaDoorProg
namespace Go.Proofs
open Go.Shelf
def Tryd.lays157_ren : Go.Shelf.Ren := ⟨fun | 157 => 150 | 229 => 157 | 199 => 158 | 261 => 160 | 311 => 162 | 312 => 163 | n => n, fun | 9 => 9 | 31 => 63 | 3 => 3 | 5 => 5 | 4 => 4 | 119 => 152 | 0 => 0 | 40 => 154 | 152 => 156 | 21 => 21 | 154 => 158 | 51 => 159 | 141 => 161 | 196 => 165 | 193 => 162 | 198 => 167 | 49 => 28 | 194 => 163 | 201 => 170 | 226 => 172 | 46 => 173 | 227 => 174 | n => n, fun | 0 => 0 | 6 => 1 | n => n⟩
theorem Tryd.lays157 : Go.Proofs.Lays.n157 Tryd.prog Tryd.lays157_ren := {
  mixed := by kernel_rfl
  f157 := Tryd.func150.trans (congrArg some (by kernel_rfl))
  f199 := Tryd.func158.trans (congrArg some (by kernel_rfl))
  f229 := Tryd.func157.trans (congrArg some (by kernel_rfl))
  f261 := Tryd.func160.trans (congrArg some (by kernel_rfl))
  f311 := Tryd.func162.trans (congrArg some (by kernel_rfl))
  f312 := Tryd.func163.trans (congrArg some (by kernel_rfl))
  t0 := Tryd.underlying0
  a0 := Tryd.isAgg0
  z0 := Tryd.sizeOf0
  v0 := Tryd.zeroValue0
  t3 := Tryd.underlying3
  a3 := Tryd.isAgg3
  z3 := Tryd.sizeOf3
  v3 := Tryd.zeroValue3
  t4 := Tryd.underlying4
  a4 := Tryd.isAgg4
  z4 := Tryd.sizeOf4
  v4 := Tryd.zeroValue4
  t5 := Tryd.underlying5
  a5 := Tryd.isAgg5
  z5 := Tryd.sizeOf5
  v5 := Tryd.zeroValue5
  t9 := Tryd.underlying9
  a9 := Tryd.isAgg9
  z9 := Tryd.sizeOf9
  v9 := Tryd.zeroValue9
  t21 := Tryd.underlying21
  a21 := Tryd.isAgg21
  z21 := Tryd.sizeOf21
  v21 := Tryd.zeroValue21
  t31 := Tryd.underlying63
  a31 := Tryd.isAgg63
  z31 := Tryd.sizeOf63
  v31 := Tryd.zeroValue63
  t40 := Tryd.underlying154
  a40 := Tryd.isAgg154
  z40 := Tryd.sizeOf154
  v40 := Tryd.zeroValue154
  t46 := Tryd.underlying173
  a46 := Tryd.isAgg173
  z46 := Tryd.sizeOf173
  v46 := Tryd.zeroValue173
  t49 := Tryd.underlying28
  a49 := Tryd.isAgg28
  z49 := Tryd.sizeOf28
  v49 := Tryd.zeroValue28
  t51 := Tryd.underlying159
  a51 := Tryd.isAgg159
  z51 := Tryd.sizeOf159
  v51 := Tryd.zeroValue159
  t119 := Tryd.underlying152
  a119 := Tryd.isAgg152
  z119 := Tryd.sizeOf152
  t141 := Tryd.underlying161
  a141 := Tryd.isAgg161
  z141 := Tryd.sizeOf161
  v141 := Tryd.zeroValue161
  t152 := Tryd.underlying156
  a152 := Tryd.isAgg156
  z152 := Tryd.sizeOf156
  v152 := Tryd.zeroValue156
  t154 := Tryd.underlying158
  a154 := Tryd.isAgg158
  z154 := Tryd.sizeOf158
  v154 := Tryd.zeroValue158
  t193 := Tryd.underlying162
  a193 := Tryd.isAgg162
  z193 := Tryd.sizeOf162
  v193 := Tryd.zeroValue162
  t194 := Tryd.underlying163
  a194 := Tryd.isAgg163
  z194 := Tryd.sizeOf163
  v194 := Tryd.zeroValue163
  t196 := Tryd.underlying165
  a196 := Tryd.isAgg165
  z196 := Tryd.sizeOf165
  v196 := Tryd.zeroValue165
  t198 := Tryd.underlying167
  a198 := Tryd.isAgg167
  z198 := Tryd.sizeOf167
  v198 := Tryd.zeroValue167
  t201 := Tryd.underlying170
  a201 := Tryd.isAgg170
  z201 := Tryd.sizeOf170
  v201 := Tryd.zeroValue170
  t226 := Tryd.underlying172
  a226 := Tryd.isAgg172
  z226 := Tryd.sizeOf172
  v226 := Tryd.zeroValue172
  t227 := Tryd.underlying174
  a227 := Tryd.isAgg174
  z227 := Tryd.sizeOf174
  v227 := Tryd.zeroValue174
  g0 := by kernel_rfl
  g6 := by kernel_rfl }
open Go.RowKit Go.Lib in
/-- strings.Fields, the table by 'Lib.TabIs' (as strings.TrimSpace's contract). 'hg': the table's number, by its name: at a dump 'by kernel_rfl'. (LAID: no walk: one application.) -/
theorem Tryd.strings_Fields (s : ByteArray) (w : World) (hs : s.size < 4294967281) (hascii : ∀ (j : Nat) b, s.data.toList[j]? = some b → b.toNat < 128) (htab : Lib.TabIs Tryd.prog w "strings.asciiSpace" .u8 Lib.asciiSpaceTab) :
    Calls Tryd.prog 150 #[.string s] w fun e w' =>
      e = .returned (.slice (some ⟨w.heap.size, 0, none⟩) (Lib.fields s.data.toList).length (Lib.fields s.data.toList).length) ∧ w' = w.alloc (.cells ((Lib.fields s.data.toList).map fun l => Value.string ⟨l.toArray⟩).toArray 9) := Any.strings_Fields Tryd.lays157 (by kernel_rfl) (by kernel_rfl) s w hs hascii htab
end Go.Proofs
