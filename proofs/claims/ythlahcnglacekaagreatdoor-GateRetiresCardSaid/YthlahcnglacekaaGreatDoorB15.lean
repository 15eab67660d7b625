/- Part of GateRetires. -/
import Derived.Shelf.SlSortCmp.NoneTotal
import Derived.Test.YthlahcnglacekaaGreatDoorProg
set_option maxRecDepth 100000
set_option maxHeartbeats 16000000
namespace Go.Proofs.YthlahcnglacekaaGreatDoor
end Go.Proofs.YthlahcnglacekaaGreatDoor
namespace Go.Proofs
open Go.Shelf
def Tryz.sortRow_ren:Go.Shelf.Ren:=⟨fun|6=>246|15=>269|14=>268|28=>289|29=>271|20=>281|21=>282|22=>283|23=>284|24=>285|25=>286|26=>287|27=>288|46=>292|47=>293|48=>294|49=>295|50=>296|57=>297|n=>n,fun|22=>99|24=>246|25=>250|3=>3|39=>282|0=>0|53=>272|55=>350|4=>4|46=>399|45=>398|50=>157|5=>5|9=>9|66=>405|70=>409|76=>412|77=>413|n=>n,fun|n=>n⟩
theorem Tryz.sortRow : Go.Proofs.SlLaysF0.n6 Tryz.prog Tryz.sortRow_ren := {
  mixed := by kernel_rfl
  f6 := ⟨Tryz.f246.name, by decide, Tryz.func246.trans (congrArg some (by kernel_rfl))⟩
  f14 := ⟨Tryz.f268.name, by decide, Tryz.func268.trans (congrArg some (by kernel_rfl))⟩
  f15 := Tryz.func269.trans (congrArg some (by kernel_rfl))
  f20 := ⟨Tryz.f281.name, by decide, Tryz.func281.trans (congrArg some (by kernel_rfl))⟩
  f21 := ⟨Tryz.f282.name, by decide, Tryz.func282.trans (congrArg some (by kernel_rfl))⟩
  f22 := ⟨Tryz.f283.name, by decide, Tryz.func283.trans (congrArg some (by kernel_rfl))⟩
  f23 := ⟨Tryz.f284.name, by decide, Tryz.func284.trans (congrArg some (by kernel_rfl))⟩
  f24 := ⟨Tryz.f285.name, by decide, Tryz.func285.trans (congrArg some (by kernel_rfl))⟩
  f25 := ⟨Tryz.f286.name, by decide, Tryz.func286.trans (congrArg some (by kernel_rfl))⟩
  f26 := ⟨Tryz.f287.name, by decide, Tryz.func287.trans (congrArg some (by kernel_rfl))⟩
  f27 := ⟨Tryz.f288.name, by decide, Tryz.func288.trans (congrArg some (by kernel_rfl))⟩
  f28 := Tryz.func289.trans (congrArg some (by kernel_rfl))
  f29 := Tryz.func271.trans (congrArg some (by kernel_rfl))
  f46 := ⟨Tryz.f292.name, by decide, Tryz.func292.trans (congrArg some (by kernel_rfl))⟩
  f47 := Tryz.func293.trans (congrArg some (by kernel_rfl))
  f48 := Tryz.func294.trans (congrArg some (by kernel_rfl))
  f49 := ⟨Tryz.f295.name, by decide, Tryz.func295.trans (congrArg some (by kernel_rfl))⟩
  f50 := ⟨Tryz.f296.name, by decide, Tryz.func296.trans (congrArg some (by kernel_rfl))⟩
  f57 := ⟨Tryz.f297.name, by decide, Tryz.func297.trans (congrArg some (by kernel_rfl))⟩
  t0 := Tryz.underlying0
  a0 := Tryz.isAgg0
  z0 := Tryz.sizeOf0
  v0 := Tryz.zeroValue0
  t3 := Tryz.underlying3
  a3 := Tryz.isAgg3
  z3 := Tryz.sizeOf3
  v3 := Tryz.zeroValue3
  t4 := Tryz.underlying4
  a4 := Tryz.isAgg4
  z4 := Tryz.sizeOf4
  v4 := Tryz.zeroValue4
  t5 := Tryz.underlying5
  a5 := Tryz.isAgg5
  z5 := Tryz.sizeOf5
  v5 := Tryz.zeroValue5
  t9 := Tryz.underlying9
  a9 := Tryz.isAgg9
  z9 := Tryz.sizeOf9
  v9 := Tryz.zeroValue9
  t22 := Tryz.underlying99
  a22 := Tryz.isAgg99
  z22 := Tryz.sizeOf99
  v22 := Tryz.zeroValue99
  t25 := Tryz.underlying250
  a25 := Tryz.isAgg250
  z25 := Tryz.sizeOf250
  v25 := Tryz.zeroValue250
  t39 := Tryz.underlying282
  a39 := Tryz.isAgg282
  z39 := Tryz.sizeOf282
  v39 := Tryz.zeroValue282
  t45 := Tryz.underlying398
  a45 := Tryz.isAgg398
  z45 := Tryz.sizeOf398
  v45 := Tryz.zeroValue398
  t46 := Tryz.underlying399
  a46 := Tryz.isAgg399
  z46 := Tryz.sizeOf399
  v46 := Tryz.zeroValue399
  t50 := Tryz.underlying157
  a50 := Tryz.isAgg157
  z50 := Tryz.sizeOf157
  v50 := Tryz.zeroValue157
  t53 := Tryz.underlying272
  a53 := Tryz.isAgg272
  z53 := Tryz.sizeOf272
  v53 := Tryz.zeroValue272
  t55 := Tryz.underlying350
  a55 := Tryz.isAgg350
  z55 := Tryz.sizeOf350
  v55 := Tryz.zeroValue350
  t66 := Tryz.underlying405
  a66 := Tryz.isAgg405
  z66 := Tryz.sizeOf405
  v66 := Tryz.zeroValue405
  t70 := Tryz.underlying409
  a70 := Tryz.isAgg409
  z70 := Tryz.sizeOf409
  v70 := Tryz.zeroValue409
  t76 := Tryz.underlying412
  a76 := Tryz.isAgg412
  z76 := Tryz.sizeOf412
  v76 := Tryz.zeroValue412
  t77 := Tryz.underlying413
  a77 := Tryz.isAgg413
  z77 := Tryz.sizeOf413
  v77 := Tryz.zeroValue413 }
end Go.Proofs
namespace Go.Proofs.YthlahcnglacekaaGreatDoor
end Go.Proofs.YthlahcnglacekaaGreatDoor
