/- A part of the proof of RegionBeats: Iter, IterC. -/
import Derived.Shelf.SlIter.Nil
import Derived.Shelf.SortM.Plain
import Derived.Shelf.SortM.SortNone
import Derived.Ground.GgzProg
import Derived.Ground.SlgmProg
import Derived.Test.YtlingaebpfdhgaaGreatDoorProg
namespace Go.Proofs
open Go.Shelf
def Tryz.keys154_ren:Go.Shelf.Ren:=⟨fun|7=>154|10=>185|n=>n,fun|23=>172|26=>9|3=>3|28=>263|0=>0|27=>262|33=>302|4=>4|n=>n,fun|n=>n⟩
theorem Tryz.keys154 : Go.Proofs.SlLaysZ.n7 Tryz.prog Tryz.keys154_ren := {
  mixed := by kernel_rfl
  f7 := ⟨Tryz.f154.name, by decide, Tryz.func154.trans (congrArg some (by kernel_rfl))⟩
  f10 := ⟨Tryz.f185.name, by decide, Tryz.func185.trans (congrArg some (by kernel_rfl))⟩
  t0 := Tryz.underlying0
  a0 := Tryz.isAgg0
  z0 := Tryz.sizeOf0
  v0 := Tryz.zeroValue0
  t4 := Tryz.underlying4
  a4 := Tryz.isAgg4
  z4 := Tryz.sizeOf4
  v4 := Tryz.zeroValue4
  t23 := Tryz.underlying172
  a23 := Tryz.isAgg172
  z23 := Tryz.sizeOf172
  v23 := Tryz.zeroValue172
  t26 := Tryz.underlying9
  a26 := Tryz.isAgg9
  z26 := Tryz.sizeOf9
  v26 := Tryz.zeroValue9
  t27 := Tryz.underlying262
  a27 := Tryz.isAgg262
  z27 := Tryz.sizeOf262
  v27 := Tryz.zeroValue262
  t28 := Tryz.underlying263
  a28 := Tryz.isAgg263
  z28 := Tryz.sizeOf263
  v28 := Tryz.zeroValue263
  t33 := Tryz.underlying302
  a33 := Tryz.isAgg302
  z33 := Tryz.sizeOf302
  v33 := Tryz.zeroValue302 }
def Tryz.sorted153_ren:Go.Shelf.Ren:=⟨fun|6=>153|8=>183|9=>184|11=>203|13=>205|12=>204|23=>226|24=>227|14=>217|15=>218|16=>219|17=>220|18=>221|19=>222|20=>223|21=>224|22=>225|25=>235|26=>236|27=>237|28=>238|29=>239|30=>200|31=>253|n=>n,fun|26=>9|28=>263|24=>109|0=>0|3=>3|37=>228|48=>131|50=>319|4=>4|40=>332|39=>331|45=>253|5=>5|9=>9|51=>344|55=>348|57=>355|58=>356|33=>302|n=>n,fun|n=>n⟩
theorem Tryz.sorted153 : Go.Proofs.SlLaysZ.n6 Tryz.prog Tryz.sorted153_ren := {
  mixed := by kernel_rfl
  f6 := ⟨Tryz.f153.name, by decide, Tryz.func153.trans (congrArg some (by kernel_rfl))⟩
  f8 := ⟨Tryz.f183.name, by decide, Tryz.func183.trans (congrArg some (by kernel_rfl))⟩
  f11 := ⟨Tryz.f203.name, by decide, Tryz.func203.trans (congrArg some (by kernel_rfl))⟩
  t0 := Tryz.underlying0
  a0 := Tryz.isAgg0
  z0 := Tryz.sizeOf0
  v0 := Tryz.zeroValue0
  t24 := Tryz.underlying109
  a24 := Tryz.isAgg109
  z24 := Tryz.sizeOf109
  v24 := Tryz.zeroValue109
  t26 := Tryz.underlying9
  a26 := Tryz.isAgg9
  z26 := Tryz.sizeOf9
  v26 := Tryz.zeroValue9
  t28 := Tryz.underlying263
  a28 := Tryz.isAgg263
  z28 := Tryz.sizeOf263
  v28 := Tryz.zeroValue263
  i26 := by kernel_rfl }
def Tryz.sort184_ren:Go.Shelf.Ren:=⟨fun|6=>184|8=>205|9=>204|19=>226|20=>227|21=>217|22=>218|23=>219|24=>220|25=>221|26=>222|27=>223|28=>224|29=>225|36=>235|31=>236|32=>237|37=>238|38=>239|39=>200|41=>253|n=>n,fun|27=>109|29=>9|3=>3|32=>228|26=>109|0=>0|44=>131|46=>319|4=>4|36=>332|35=>331|41=>253|5=>5|9=>9|53=>344|57=>348|63=>355|64=>356|n=>n,fun|n=>n⟩
theorem Tryz.sort184 : Go.Proofs.SlLaysM.n6 Tryz.prog Tryz.sort184_ren := {
  mixed := by kernel_rfl
  f6 := ⟨Tryz.f184.name, by decide, Tryz.func184.trans (congrArg some (by kernel_rfl))⟩
  f8 := Tryz.func205.trans (congrArg some (by kernel_rfl))
  f9 := ⟨Tryz.f204.name, by decide, Tryz.func204.trans (congrArg some (by kernel_rfl))⟩
  f19 := Tryz.func226.trans (congrArg some (by kernel_rfl))
  f20 := Tryz.func227.trans (congrArg some (by kernel_rfl))
  f21 := ⟨Tryz.f217.name, by decide, Tryz.func217.trans (congrArg some (by kernel_rfl))⟩
  f22 := ⟨Tryz.f218.name, by decide, Tryz.func218.trans (congrArg some (by kernel_rfl))⟩
  f23 := ⟨Tryz.f219.name, by decide, Tryz.func219.trans (congrArg some (by kernel_rfl))⟩
  f24 := ⟨Tryz.f220.name, by decide, Tryz.func220.trans (congrArg some (by kernel_rfl))⟩
  f25 := ⟨Tryz.f221.name, by decide, Tryz.func221.trans (congrArg some (by kernel_rfl))⟩
  f26 := ⟨Tryz.f222.name, by decide, Tryz.func222.trans (congrArg some (by kernel_rfl))⟩
  f27 := ⟨Tryz.f223.name, by decide, Tryz.func223.trans (congrArg some (by kernel_rfl))⟩
  f28 := ⟨Tryz.f224.name, by decide, Tryz.func224.trans (congrArg some (by kernel_rfl))⟩
  f29 := ⟨Tryz.f225.name, by decide, Tryz.func225.trans (congrArg some (by kernel_rfl))⟩
  f31 := Tryz.func236.trans (congrArg some (by kernel_rfl))
  f32 := Tryz.func237.trans (congrArg some (by kernel_rfl))
  f36 := ⟨Tryz.f235.name, by decide, Tryz.func235.trans (congrArg some (by kernel_rfl))⟩
  f37 := ⟨Tryz.f238.name, by decide, Tryz.func238.trans (congrArg some (by kernel_rfl))⟩
  f38 := ⟨Tryz.f239.name, by decide, Tryz.func239.trans (congrArg some (by kernel_rfl))⟩
  f39 := ⟨Tryz.f200.name, by decide, Tryz.func200.trans (congrArg some (by kernel_rfl))⟩
  f41 := ⟨Tryz.f253.name, by decide, Tryz.func253.trans (congrArg some (by kernel_rfl))⟩
  t0 := Tryz.underlying0
  a0 := Tryz.isAgg0
  z0 := Tryz.sizeOf0
  v0 := Tryz.zeroValue0
  t3 := Tryz.underlying3
  a3 := Tryz.isAgg3
  z3 := Tryz.sizeOf3
  v3 := Tryz.zeroValue3
  t4 := Tryz.underlying4
  a4 := Tryz.isAgg4
  z4 := Tryz.sizeOf4
  v4 := Tryz.zeroValue4
  t5 := Tryz.underlying5
  a5 := Tryz.isAgg5
  z5 := Tryz.sizeOf5
  v5 := Tryz.zeroValue5
  t9 := Tryz.underlying9
  a9 := Tryz.isAgg9
  z9 := Tryz.sizeOf9
  v9 := Tryz.zeroValue9
  t26 := Tryz.underlying109
  a26 := Tryz.isAgg109
  z26 := Tryz.sizeOf109
  v26 := Tryz.zeroValue109
  t27 := Tryz.underlying109
  a27 := Tryz.isAgg109
  z27 := Tryz.sizeOf109
  v27 := Tryz.zeroValue109
  t29 := Tryz.underlying9
  a29 := Tryz.isAgg9
  z29 := Tryz.sizeOf9
  v29 := Tryz.zeroValue9
  t32 := Tryz.underlying228
  a32 := Tryz.isAgg228
  z32 := Tryz.sizeOf228
  v32 := Tryz.zeroValue228
  t35 := Tryz.underlying331
  a35 := Tryz.isAgg331
  z35 := Tryz.sizeOf331
  v35 := Tryz.zeroValue331
  t36 := Tryz.underlying332
  a36 := Tryz.isAgg332
  z36 := Tryz.sizeOf332
  v36 := Tryz.zeroValue332
  t41 := Tryz.underlying253
  a41 := Tryz.isAgg253
  z41 := Tryz.sizeOf253
  v41 := Tryz.zeroValue253
  t44 := Tryz.underlying131
  a44 := Tryz.isAgg131
  z44 := Tryz.sizeOf131
  v44 := Tryz.zeroValue131
  t46 := Tryz.underlying319
  a46 := Tryz.isAgg319
  z46 := Tryz.sizeOf319
  v46 := Tryz.zeroValue319
  t53 := Tryz.underlying344
  a53 := Tryz.isAgg344
  z53 := Tryz.sizeOf344
  v53 := Tryz.zeroValue344
  t57 := Tryz.underlying348
  a57 := Tryz.isAgg348
  z57 := Tryz.sizeOf348
  v57 := Tryz.zeroValue348
  t63 := Tryz.underlying355
  a63 := Tryz.isAgg355
  z63 := Tryz.sizeOf355
  v63 := Tryz.zeroValue355
  t64 := Tryz.underlying356
  a64 := Tryz.isAgg356
  z64 := Tryz.sizeOf356
  v64 := Tryz.zeroValue356 }
end Go.Proofs
namespace Go.Proofs
open Go.RowKit Go.Maps Go.Sort Go.Shelf
theorem Tryz.sorts153 (m:Nat):AnyZ.SortsIn Tryz.prog Tryz.sorted153_ren Fence.wide m :=
  ⟨fun blk off cap ss W hH hblk hsz=>callsIn_wide.2 (AnyM.slices_Sort_string Tryz.sort184 blk off cap ss W hH hblk hsz),
   fun p cap W=>callsIn_wide.2 (AnyM.slices_Sort_string_none Tryz.sort184 p cap W)⟩
theorem Tryz.maps_Keys_154 (mb:Option Nat) (W:World):CallsIn Fence.wide 5 Tryz.prog 154 #[.map mb] W fun e w'=>e=.returned (.func (.func 185) #[] #[.pointer (some ⟨W.heap.size,0,none⟩)])∧w'=W.alloc (.cells #[.map mb] 172) :=
 AnyZ.keys_in Tryz.keys154 Fence.wide 5 trivial rfl mb W
set_option maxHeartbeats 1000000 in
theorem Tryz.slices_Sorted_keys_153_154 {H:Type} (b nn:Nat) (D0:DataW H) (R:Value→Option (DataW H × List MemPlace)) (w:World) (hown:w.ownsMap Tryz.prog 9 R b nn D0) (hmax:Maps.size D0≤maxLen) (hbytes:Maps.size D0 * 16≤140737488355328) :
  CallsIn Fence.wide 5 Tryz.prog 153 #[.func (.func 185) #[] #[.pointer (some ⟨w.heap.size,0,none⟩)]] (w.alloc (.cells #[.map (some b)] 172)) fun e w'=>∃ (v:Value) (ss:List (List UInt8)),e=.returned v∧ss.Perm (strKeys D0) ∧
   w'.ownsRow (w.alloc (.cells #[.map (some b)] 172)).heap.size 9 1 v ss.length ((ss.mergeSort (fun x y=>decide (x≤y))).map encStr)∧(v=.slice none 0 0 ↔ ss=[])∧Below (w.alloc (.cells #[.map (some b)] 172)).heap.size (w.alloc (.cells #[.map (some b)] 172)) w':=by
 have hbl:=hown.lt
 have hseq:SeqGives Fence.wide 2 Tryz.prog 185 #[.pointer (some ⟨w.heap.size,0,none⟩)] encStr (fun ss=>ss.Perm (strKeys D0)) (Maps.size D0) (w.alloc (.cells #[.map (some b)] 172)) :=
  AnyZ.keys_gives (ρ:=Tryz.keys154_ren) { Tryz.keys154 with } Fence.wide _ trivial rfl (by omega) w.heap.size b nn D0 _ (by simp) (by simp) (by
   obtain ⟨es,clock,hb,Ft,hs,hD⟩:=hown
   exact ⟨es,clock,(Below.heap_alloc _ _ b hbl).trans hb,Ft,hs,hD⟩)
 exact AnyZ.sorted_in Tryz.sorted153 Fence.wide 5 trivial trivial trivial trivial rfl (by omega) (Tryz.sorts153 _) (enters_of Tryz.func184 (by kernel_rfl) rfl) 185 #[.pointer (some ⟨w.heap.size,0,none⟩)] trivial (enters_of Tryz.func185 (by kernel_rfl) rfl) _ _ hmax hbytes _ hseq
end Go.Proofs
