/- A part of the proof of RegionBeats: Shelf, ShelfC. -/
import Derived.Shelf.LaysM
import Derived.Shelf.Strconv.Itoa3
import Derived.Shelf.Strings.Cut
import Derived.Test.YtlingaebpfdhgaaGreatDoorProg
import Derived.Shelf.LaySoft
namespace Go.Proofs
open Go.Shelf
def Tryz.laysM171_ren:Go.Shelf.Ren:=⟨fun|171=>108|243=>160|246=>193|283=>208|284=>209|285=>210|286=>211|129=>227|317=>230|318=>231|319=>232|320=>233|337=>251|338=>252|n=>n,fun|3=>3|9=>9|2=>2|4=>4|171=>318|0=>0|53=>319|37=>79|5=>5|173=>322|212=>341|51=>131|20=>20|213=>342|46=>228|232=>362|233=>363|n=>n,fun|17=>0|18=>2|19=>3|n=>n⟩
theorem Tryz.laysM171 : Go.Proofs.LaysM.n171 Tryz.prog Tryz.laysM171_ren := {
  mixed := by kernel_rfl
  f129 := Tryz.func227.trans (congrArg some (by kernel_rfl))
  f171 := Tryz.func108.trans (congrArg some (by kernel_rfl))
  f243 := Tryz.func160.trans (congrArg some (by kernel_rfl))
  f246 := Tryz.func193.trans (congrArg some (by kernel_rfl))
  f283 := Tryz.func208.trans (congrArg some (by kernel_rfl))
  f284 := Tryz.func209.trans (congrArg some (by kernel_rfl))
  f285 := Tryz.func210.trans (congrArg some (by kernel_rfl))
  f286 := Tryz.func211.trans (congrArg some (by kernel_rfl))
  f317 := Tryz.func230.trans (congrArg some (by kernel_rfl))
  f318 := Tryz.func231.trans (congrArg some (by kernel_rfl))
  f319 := Tryz.func232.trans (congrArg some (by kernel_rfl))
  f320 := Tryz.func233.trans (congrArg some (by kernel_rfl))
  f337 := Tryz.func251.trans (congrArg some (by kernel_rfl))
  f338 := Tryz.func252.trans (congrArg some (by kernel_rfl))
  t0 := Tryz.underlying0
  a0 := Tryz.isAgg0
  z0 := Tryz.sizeOf0
  v0 := Tryz.zeroValue0
  t2 := Tryz.underlying2
  a2 := Tryz.isAgg2
  z2 := Tryz.sizeOf2
  v2 := Tryz.zeroValue2
  t3 := Tryz.underlying3
  a3 := Tryz.isAgg3
  z3 := Tryz.sizeOf3
  v3 := Tryz.zeroValue3
  t4 := Tryz.underlying4
  a4 := Tryz.isAgg4
  z4 := Tryz.sizeOf4
  v4 := Tryz.zeroValue4
  t5 := Tryz.underlying5
  a5 := Tryz.isAgg5
  z5 := Tryz.sizeOf5
  v5 := Tryz.zeroValue5
  t9 := Tryz.underlying9
  a9 := Tryz.isAgg9
  z9 := Tryz.sizeOf9
  v9 := Tryz.zeroValue9
  t20 := Tryz.underlying20
  a20 := Tryz.isAgg20
  z20 := Tryz.sizeOf20
  v20 := Tryz.zeroValue20
  t37 := Tryz.underlying79
  a37 := Tryz.isAgg79
  z37 := Tryz.sizeOf79
  v37 := Tryz.zeroValue79
  t46 := Tryz.underlying228
  a46 := Tryz.isAgg228
  z46 := Tryz.sizeOf228
  v46 := Tryz.zeroValue228
  t51 := Tryz.underlying131
  a51 := Tryz.isAgg131
  z51 := Tryz.sizeOf131
  v51 := Tryz.zeroValue131
  t53 := Tryz.underlying319
  a53 := Tryz.isAgg319
  z53 := Tryz.sizeOf319
  v53 := Tryz.zeroValue319
  t171 := Tryz.underlying318
  a171 := Tryz.isAgg318
  z171 := Tryz.sizeOf318
  v171 := Tryz.zeroValue318
  t173 := Tryz.underlying322
  a173 := Tryz.isAgg322
  z173 := Tryz.sizeOf322
  v173 := Tryz.zeroValue322
  t212 := Tryz.underlying341
  a212 := Tryz.isAgg341
  z212 := Tryz.sizeOf341
  v212 := Tryz.zeroValue341
  t213 := Tryz.underlying342
  a213 := Tryz.isAgg342
  z213 := Tryz.sizeOf342
  t232 := Tryz.underlying362
  a232 := Tryz.isAgg362
  z232 := Tryz.sizeOf362
  v232 := Tryz.zeroValue362
  t233 := Tryz.underlying363
  a233 := Tryz.isAgg363
  z233 := Tryz.sizeOf363
  v233 := Tryz.zeroValue363
  g17 := by kernel_rfl
  g18 := by kernel_rfl
  g19 := by kernel_rfl
  i0 := by kernel_rfl
  i2 := by kernel_rfl
  i3 := by kernel_rfl
  i4 := by kernel_rfl
  i5 := by kernel_rfl
  i9 := by kernel_rfl
  i20 := by kernel_rfl
  i37 := by kernel_rfl
  i46 := by kernel_rfl
  i51 := by kernel_rfl
  i53 := by kernel_rfl
  i171 := by kernel_rfl
  i173 := by kernel_rfl
  i212 := by kernel_rfl
  i232 := by kernel_rfl
  i233 := by kernel_rfl
  m17 := by kernel_rfl
  m18 := by kernel_rfl
  m19 := by kernel_rfl }
def Tryz.lays145_ren:Go.Shelf.Ren:=⟨fun|145=>191|220=>207|219=>229|217=>197|225=>248|224=>249|267=>250|266=>213|314=>257|n=>n,fun|9=>9|4=>4|59=>306|3=>3|5=>5|46=>228|146=>360|51=>131|n=>n,fun|1=>1|n=>n⟩
theorem Tryz.lays145 : Go.Proofs.Lays.n145 Tryz.prog Tryz.lays145_ren := {
  mixed := by kernel_rfl
  f145 := Tryz.func191.trans (congrArg some (by kernel_rfl))
  f217 := Tryz.func197.trans (congrArg some (by kernel_rfl))
  f219 := Tryz.func229.trans (congrArg some (by kernel_rfl))
  f220 := Tryz.func207.trans (congrArg some (by kernel_rfl))
  f224 := Tryz.func249.trans (congrArg some (by kernel_rfl))
  f225 := Tryz.func248.trans (congrArg some (by kernel_rfl))
  f266 := Tryz.func213.trans (congrArg some (by kernel_rfl))
  f267 := Tryz.func250.trans (congrArg some (by kernel_rfl))
  f314 := Tryz.func257.trans (congrArg some (by kernel_rfl))
  t3 := Tryz.underlying3
  a3 := Tryz.isAgg3
  z3 := Tryz.sizeOf3
  v3 := Tryz.zeroValue3
  t4 := Tryz.underlying4
  a4 := Tryz.isAgg4
  z4 := Tryz.sizeOf4
  v4 := Tryz.zeroValue4
  t5 := Tryz.underlying5
  a5 := Tryz.isAgg5
  z5 := Tryz.sizeOf5
  v5 := Tryz.zeroValue5
  t9 := Tryz.underlying9
  a9 := Tryz.isAgg9
  z9 := Tryz.sizeOf9
  v9 := Tryz.zeroValue9
  t46 := Tryz.underlying228
  a46 := Tryz.isAgg228
  z46 := Tryz.sizeOf228
  v46 := Tryz.zeroValue228
  t51 := Tryz.underlying131
  a51 := Tryz.isAgg131
  z51 := Tryz.sizeOf131
  v51 := Tryz.zeroValue131
  t59 := Tryz.underlying306
  a59 := Tryz.isAgg306
  z59 := Tryz.sizeOf306
  v59 := Tryz.zeroValue306
  t146 := Tryz.underlying360
  a146 := Tryz.isAgg360
  z146 := Tryz.sizeOf360
  v146 := Tryz.zeroValue360
  g1 := by kernel_rfl }
end Go.Proofs
namespace Go.Proofs
open Go.RowKit Go.Lib Go.Sort Go.Shelf
open Go.RowKit Go.Sort Go.Lib in
theorem Tryz.strconv_Itoa (n : Int) (h0 : -9223372036854775808 ≤ n) (h1 : n ≤ 9223372036854775807) (w : World) (htab : Lib.TabIs Tryz.prog w "internal/strconv.uint64pow10" .u64 Lib.pow10Tab) :
  Calls Tryz.prog 108 #[.int .i64 n] w fun e w'=>e=.returned (.string ⟨(Lib.itoa n).toArray⟩)∧∃ k os,w'=grow (w.drewN k) os:=Any.strconv_Itoa Tryz.laysM171 n h0 h1 w htab
open Go.RowKit Go.Lib in
theorem Tryz.strings_Cut (s sep:ByteArray) (m:Int) (w:World) (hs:s.size < 4294967281) (hm:w.cell? ⟨1,0,none⟩=some (.int .i64 m)) :
  Calls Tryz.prog 191 #[.string s,.string sep] w fun e w'=>e=.returned (.tuple #[.string ⟨(Lib.cut s.data.toList sep.data.toList).1.toArray⟩,.string ⟨(Lib.cut s.data.toList sep.data.toList).2.1.toArray⟩,.bool (Lib.cut s.data.toList sep.data.toList).2.2])∧∃ n,w'=w.drewN n:=Any.strings_Cut Tryz.lays145 s sep m w hs hm
end Go.Proofs
