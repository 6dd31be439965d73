import Derived.Test.YtbbmdakdghefnaaGreatDoorQPV
import Derived.Shelf.SlSortCmp.NoneTotal
import Derived.Test.YtbbmdakdghefnaaGreatDoorProg
/- Texts of this claim, laid together by a program (merge.py): Ss. -/
/-
 DERIVED: THE SHELF's CONTRACTS AT THIS DUMP, IN PLAIN WORDS (tools/lay-plain.mjs out of 'YtbbmdakdghefnaaGreatDoorShelfT.lean', which tools/lay-shelf.mjs wrote): THE SAME DECLARATIONS UNDER THE SAME NAMES: 'import', 'namespace', 'open', 'def', 'theorem' AND NOTHING ELSE: no command of the shelf's: FOR A HAND-IN. Each laying: the table of numbers ('.._ren') and one theorem, a field a fact of the dump's own or the kernel's comparison; each contract: ONE APPLICATION.
-/
namespace Go.Proofs
open Go.Proofs.YtbbmdakdghefnaaGreatDoorW.PrintLast
open Go.Shelf
def Tryz.laysSortT_ren : Go.Shelf.Ren := ⟨fun | 6 => 91 | 15 => 88 | 14 => 129 | 28 => 126 | 29 => 127 | 20 => 155 | 21 => 156 | 22 => 157 | 23 => 158 | 24 => 159 | 25 => 160 | 26 => 161 | 27 => 162 | 46 => 197 | 47 => 151 | 48 => 152 | 49 => 198 | 50 => 199 | 57 => 214 | n => n, fun | 22 => 43 | 24 => 71 | 25 => 119 | 3 => 3 | 39 => 115 | 0 => 0 | 53 => 141 | 55 => 143 | 4 => 4 | 46 => 135 | 45 => 134 | 50 => 65 | 5 => 5 | 9 => 9 | 66 => 162 | 70 => 166 | 76 => 191 | 77 => 192 | n => n, fun | n => n⟩
theorem Tryz.laysSortT : Go.Proofs.SlLaysF0.n6 Tryz.prog Tryz.laysSortT_ren := {
 mixed := by kernel_rfl
 f6 := ⟨Tryz.f91.name, z106_, Tryz.func91.trans (congrArg some z159_)⟩
 f14 := ⟨Tryz.f129.name, z106_, Tryz.func129.trans (congrArg some z159_)⟩
 f15 := Tryz.func88.trans (congrArg some z159_)
 f20 := ⟨Tryz.f155.name, z106_, Tryz.func155.trans (congrArg some z159_)⟩
 f21 := ⟨Tryz.f156.name, z106_, Tryz.func156.trans (congrArg some z159_)⟩
 f22 := ⟨Tryz.f157.name, z106_, Tryz.func157.trans (congrArg some z159_)⟩
 f23 := ⟨Tryz.f158.name, z106_, Tryz.func158.trans (congrArg some z159_)⟩
 f24 := ⟨Tryz.f159.name, z106_, Tryz.func159.trans (congrArg some z159_)⟩
 f25 := ⟨Tryz.f160.name, z106_, Tryz.func160.trans (congrArg some z159_)⟩
 f26 := ⟨Tryz.f161.name, z106_, Tryz.func161.trans (congrArg some z159_)⟩
 f27 := ⟨Tryz.f162.name, z106_, Tryz.func162.trans (congrArg some z159_)⟩
 f28 := Tryz.func126.trans (congrArg some z159_)
 f29 := Tryz.func127.trans (congrArg some z159_)
 f46 := ⟨Tryz.f197.name, z106_, Tryz.func197.trans (congrArg some z159_)⟩
 f47 := Tryz.func151.trans (congrArg some z159_)
 f48 := Tryz.func152.trans (congrArg some z159_)
 f49 := ⟨Tryz.f198.name, z106_, Tryz.func198.trans (congrArg some z159_)⟩
 f50 := ⟨Tryz.f199.name, z106_, Tryz.func199.trans (congrArg some z159_)⟩
 f57 := ⟨Tryz.f214.name, z106_, Tryz.func214.trans (congrArg some z159_)⟩
 t0 := Tryz.underlying0
 a0 := Tryz.isAgg0
 z0 := Tryz.sizeOf0
 v0 := Tryz.zeroValue0
 t3 := Tryz.underlying3
 a3 := Tryz.isAgg3
 z3 := Tryz.sizeOf3
 v3 := Tryz.zeroValue3
 t4 := Tryz.underlying4
 a4 := Tryz.isAgg4
 z4 := Tryz.sizeOf4
 v4 := Tryz.zeroValue4
 t5 := Tryz.underlying5
 a5 := Tryz.isAgg5
 z5 := Tryz.sizeOf5
 v5 := Tryz.zeroValue5
 t9 := Tryz.underlying9
 a9 := Tryz.isAgg9
 z9 := Tryz.sizeOf9
 v9 := Tryz.zeroValue9
 t22 := Tryz.underlying43
 a22 := Tryz.isAgg43
 z22 := Tryz.sizeOf43
 v22 := Tryz.zeroValue43
 t25 := Tryz.underlying119
 a25 := Tryz.isAgg119
 z25 := Tryz.sizeOf119
 v25 := Tryz.zeroValue119
 t39 := Tryz.underlying115
 a39 := Tryz.isAgg115
 z39 := Tryz.sizeOf115
 v39 := Tryz.zeroValue115
 t45 := Tryz.underlying134
 a45 := Tryz.isAgg134
 z45 := Tryz.sizeOf134
 v45 := Tryz.zeroValue134
 t46 := Tryz.underlying135
 a46 := Tryz.isAgg135
 z46 := Tryz.sizeOf135
 v46 := Tryz.zeroValue135
 t50 := Tryz.underlying65
 a50 := Tryz.isAgg65
 z50 := Tryz.sizeOf65
 v50 := Tryz.zeroValue65
 t53 := Tryz.underlying141
 a53 := Tryz.isAgg141
 z53 := Tryz.sizeOf141
 v53 := Tryz.zeroValue141
 t55 := Tryz.underlying143
 a55 := Tryz.isAgg143
 z55 := Tryz.sizeOf143
 v55 := Tryz.zeroValue143
 t66 := Tryz.underlying162
 a66 := Tryz.isAgg162
 z66 := Tryz.sizeOf162
 v66 := Tryz.zeroValue162
 t70 := Tryz.underlying166
 a70 := Tryz.isAgg166
 z70 := Tryz.sizeOf166
 v70 := Tryz.zeroValue166
 t76 := Tryz.underlying191
 a76 := Tryz.isAgg191
 z76 := Tryz.sizeOf191
 v76 := Tryz.zeroValue191
 t77 := Tryz.underlying192
 a77 := Tryz.isAgg192
 z77 := Tryz.sizeOf192
 v77 := Tryz.zeroValue192 }
end Go.Proofs
