/- A part of the proof of RegionNone: Shelf, ShelfC. -/
import Derived.Shelf.LaysM
import Derived.Shelf.Strconv.Itoa3
import Derived.Shelf.Strings.Cut
import Derived.Test.YtdaphppdmnmicaaGreatDoorProg
import Derived.Shelf.LaySoft
namespace Go.Proofs
open Go.Shelf
def Tryz.laysM171_ren:Go.Shelf.Ren:=⟨fun|171=>116|243=>210|246=>272|283=>302|284=>303|285=>304|286=>305|129=>289|317=>331|318=>332|319=>333|320=>334|337=>344|338=>345|n=>n,fun|3=>3|9=>9|2=>2|4=>4|171=>449|0=>0|53=>439|37=>163|5=>5|173=>451|212=>472|51=>384|20=>20|213=>473|46=>392|232=>483|233=>484|n=>n,fun|17=>1|18=>3|19=>4|n=>n⟩
theorem Tryz.laysM171 : Go.Proofs.LaysM.n171 Tryz.prog Tryz.laysM171_ren := {
  mixed := by kernel_rfl
  f129 := Tryz.func289.trans (congrArg some (by kernel_rfl))
  f171 := Tryz.func116.trans (congrArg some (by kernel_rfl))
  f243 := Tryz.func210.trans (congrArg some (by kernel_rfl))
  f246 := Tryz.func272.trans (congrArg some (by kernel_rfl))
  f283 := Tryz.func302.trans (congrArg some (by kernel_rfl))
  f284 := Tryz.func303.trans (congrArg some (by kernel_rfl))
  f285 := Tryz.func304.trans (congrArg some (by kernel_rfl))
  f286 := Tryz.func305.trans (congrArg some (by kernel_rfl))
  f317 := Tryz.func331.trans (congrArg some (by kernel_rfl))
  f318 := Tryz.func332.trans (congrArg some (by kernel_rfl))
  f319 := Tryz.func333.trans (congrArg some (by kernel_rfl))
  f320 := Tryz.func334.trans (congrArg some (by kernel_rfl))
  f337 := Tryz.func344.trans (congrArg some (by kernel_rfl))
  f338 := Tryz.func345.trans (congrArg some (by kernel_rfl))
  t0 := Tryz.underlying0
  a0 := Tryz.isAgg0
  z0 := Tryz.sizeOf0
  v0 := Tryz.zeroValue0
  t2 := Tryz.underlying2
  a2 := Tryz.isAgg2
  z2 := Tryz.sizeOf2
  v2 := Tryz.zeroValue2
  t3 := Tryz.underlying3
  a3 := Tryz.isAgg3
  z3 := Tryz.sizeOf3
  v3 := Tryz.zeroValue3
  t4 := Tryz.underlying4
  a4 := Tryz.isAgg4
  z4 := Tryz.sizeOf4
  v4 := Tryz.zeroValue4
  t5 := Tryz.underlying5
  a5 := Tryz.isAgg5
  z5 := Tryz.sizeOf5
  v5 := Tryz.zeroValue5
  t9 := Tryz.underlying9
  a9 := Tryz.isAgg9
  z9 := Tryz.sizeOf9
  v9 := Tryz.zeroValue9
  t20 := Tryz.underlying20
  a20 := Tryz.isAgg20
  z20 := Tryz.sizeOf20
  v20 := Tryz.zeroValue20
  t37 := Tryz.underlying163
  a37 := Tryz.isAgg163
  z37 := Tryz.sizeOf163
  v37 := Tryz.zeroValue163
  t46 := Tryz.underlying392
  a46 := Tryz.isAgg392
  z46 := Tryz.sizeOf392
  v46 := Tryz.zeroValue392
  t51 := Tryz.underlying384
  a51 := Tryz.isAgg384
  z51 := Tryz.sizeOf384
  v51 := Tryz.zeroValue384
  t53 := Tryz.underlying439
  a53 := Tryz.isAgg439
  z53 := Tryz.sizeOf439
  v53 := Tryz.zeroValue439
  t171 := Tryz.underlying449
  a171 := Tryz.isAgg449
  z171 := Tryz.sizeOf449
  v171 := Tryz.zeroValue449
  t173 := Tryz.underlying451
  a173 := Tryz.isAgg451
  z173 := Tryz.sizeOf451
  v173 := Tryz.zeroValue451
  t212 := Tryz.underlying472
  a212 := Tryz.isAgg472
  z212 := Tryz.sizeOf472
  v212 := Tryz.zeroValue472
  t213 := Tryz.underlying473
  a213 := Tryz.isAgg473
  z213 := Tryz.sizeOf473
  t232 := Tryz.underlying483
  a232 := Tryz.isAgg483
  z232 := Tryz.sizeOf483
  v232 := Tryz.zeroValue483
  t233 := Tryz.underlying484
  a233 := Tryz.isAgg484
  z233 := Tryz.sizeOf484
  v233 := Tryz.zeroValue484
  g17 := by kernel_rfl
  g18 := by kernel_rfl
  g19 := by kernel_rfl
  i0 := by kernel_rfl
  i2 := by kernel_rfl
  i3 := by kernel_rfl
  i4 := by kernel_rfl
  i5 := by kernel_rfl
  i9 := by kernel_rfl
  i20 := by kernel_rfl
  i37 := by kernel_rfl
  i46 := by kernel_rfl
  i51 := by kernel_rfl
  i53 := by kernel_rfl
  i171 := by kernel_rfl
  i173 := by kernel_rfl
  i212 := by kernel_rfl
  i232 := by kernel_rfl
  i233 := by kernel_rfl
  m17 := by kernel_rfl
  m18 := by kernel_rfl
  m19 := by kernel_rfl }
def Tryz.lays145_ren:Go.Shelf.Ren:=⟨fun|145=>232|220=>279|219=>308|217=>294|225=>336|224=>337|267=>338|266=>324|314=>346|n=>n,fun|9=>9|4=>4|59=>386|3=>3|5=>5|46=>392|146=>480|51=>384|n=>n,fun|1=>2|n=>n⟩
theorem Tryz.lays145 : Go.Proofs.Lays.n145 Tryz.prog Tryz.lays145_ren := {
  mixed := by kernel_rfl
  f145 := Tryz.func232.trans (congrArg some (by kernel_rfl))
  f217 := Tryz.func294.trans (congrArg some (by kernel_rfl))
  f219 := Tryz.func308.trans (congrArg some (by kernel_rfl))
  f220 := Tryz.func279.trans (congrArg some (by kernel_rfl))
  f224 := Tryz.func337.trans (congrArg some (by kernel_rfl))
  f225 := Tryz.func336.trans (congrArg some (by kernel_rfl))
  f266 := Tryz.func324.trans (congrArg some (by kernel_rfl))
  f267 := Tryz.func338.trans (congrArg some (by kernel_rfl))
  f314 := Tryz.func346.trans (congrArg some (by kernel_rfl))
  t3 := Tryz.underlying3
  a3 := Tryz.isAgg3
  z3 := Tryz.sizeOf3
  v3 := Tryz.zeroValue3
  t4 := Tryz.underlying4
  a4 := Tryz.isAgg4
  z4 := Tryz.sizeOf4
  v4 := Tryz.zeroValue4
  t5 := Tryz.underlying5
  a5 := Tryz.isAgg5
  z5 := Tryz.sizeOf5
  v5 := Tryz.zeroValue5
  t9 := Tryz.underlying9
  a9 := Tryz.isAgg9
  z9 := Tryz.sizeOf9
  v9 := Tryz.zeroValue9
  t46 := Tryz.underlying392
  a46 := Tryz.isAgg392
  z46 := Tryz.sizeOf392
  v46 := Tryz.zeroValue392
  t51 := Tryz.underlying384
  a51 := Tryz.isAgg384
  z51 := Tryz.sizeOf384
  v51 := Tryz.zeroValue384
  t59 := Tryz.underlying386
  a59 := Tryz.isAgg386
  z59 := Tryz.sizeOf386
  v59 := Tryz.zeroValue386
  t146 := Tryz.underlying480
  a146 := Tryz.isAgg480
  z146 := Tryz.sizeOf480
  v146 := Tryz.zeroValue480
  g1 := by kernel_rfl }
end Go.Proofs
namespace Go.Proofs
open Go.RowKit Go.Lib Go.Sort Go.Shelf
open Go.RowKit Go.Sort Go.Lib in
theorem Tryz.strconv_Itoa (n : Int) (h0 : -9223372036854775808 ≤ n) (h1 : n ≤ 9223372036854775807) (w : World) (htab : Lib.TabIs Tryz.prog w "internal/strconv.uint64pow10" .u64 Lib.pow10Tab) :
  Calls Tryz.prog 116 #[.int .i64 n] w fun e w'=>e=.returned (.string ⟨(Lib.itoa n).toArray⟩)∧∃ k os,w'=grow (w.drewN k) os:=Any.strconv_Itoa Tryz.laysM171 n h0 h1 w htab
open Go.RowKit Go.Lib in
theorem Tryz.strings_Cut (s sep:ByteArray) (m:Int) (w:World) (hs:s.size < 4294967281) (hm:w.cell? ⟨2,0,none⟩=some (.int .i64 m)) :
  Calls Tryz.prog 232 #[.string s,.string sep] w fun e w'=>e=.returned (.tuple #[.string ⟨(Lib.cut s.data.toList sep.data.toList).1.toArray⟩,.string ⟨(Lib.cut s.data.toList sep.data.toList).2.1.toArray⟩,.bool (Lib.cut s.data.toList sep.data.toList).2.2])∧∃ n,w'=w.drewN n:=Any.strings_Cut Tryz.lays145 s sep m w hs hm
end Go.Proofs
