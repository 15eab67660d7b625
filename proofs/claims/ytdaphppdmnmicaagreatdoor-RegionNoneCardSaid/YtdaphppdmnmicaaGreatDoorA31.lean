/- A part of the proof of RegionNone: CompareS, SortS. -/
import Derived.Test.YtdaphppdmnmicaaGreatDoorA29
import Derived.Shelf.SlSortCmp.NoneTotal
import Derived.Test.YtdaphppdmnmicaaGreatDoorA12
namespace Go.Proofs.YtdaphppdmnmicaaGreatDoor.store
open Go Go.RowKit base map_ err cmp above law merge rows rowe Go.Maps monoj
def rcells (x:R):List Value:=[.string x.1.1,.string x.1.2,.int .i64 x.2.t,.int .i64 x.2.r,.string x.2.v,.bool x.2.g,.int .i64 x.2.l]
theorem rlen (x:R):(rcells x).length=7:=rfl
theorem rone (x:R):(rcells x).all (·.oneCell')=true:=rfl
def Grown (W w':World):Prop:=∃ q os,w'=Go.Sort.grow (W.drewN q) os
theorem Grown.refl (W:World):Grown W W:=⟨0,#[],by simp [World.drewN]⟩
theorem Grown.alloc {W w':World} (h:Grown W w') (o:Obj):Grown W (w'.alloc o):=by
 obtain ⟨q,os,rfl⟩:=h
 exact ⟨q,os ++ #[o],by rw [Go.Sort.alloc_eq_grow,Go.Sort.grow_grow]⟩
theorem Grown.drew {W w':World} (h:Grown W w'):Grown W w'.drew:=by
 obtain ⟨q,os,rfl⟩:=h
 exact ⟨q + 1,os,rfl⟩
set_option maxRecDepth 100000 in
set_option maxHeartbeats 1000000 in
theorem compare_any (x y:R) (w:World):Calls Tryz.prog 150 #[.agg ⟨rcells x⟩,.agg ⟨rcells y⟩] w fun e w'=>e=.returned (.int .i64 (cmpN x.1 y.1))∧Grown w w':=by
 obtain ⟨⟨x1,x2⟩,xc⟩:=x
 obtain ⟨⟨y1,y2⟩,yc⟩:=y
 unfold cmpN rcells
 rw [← firstNZ_two]
 dsimp only
 generalize ha:cmpS x1 y1=a
 generalize hb:cmpS x2 y2=b
 generalize hf:firstNZ [a,b]=f
 have Ha:=Lib.hid ha
 have Hb:=Lib.hid hb
 have Hf:=Lib.hid hf
 clear ha hb hf
 go_enter Tryz.func150,Tryz.ntmps150
 go_wp2_with fail
 refine wp_region_mono nobody (by kernel_rfl) ?_
 iterate 8
  first|refine qT 0 (v:=?_) ?_ ?_|refine qT 1 (v:=?_) ?_ ?_|refine qT 2 (v:=?_) ?_ ?_|refine qT 3 (v:=?_) ?_ ?_|refine qT 5 (v:=?_) ?_ ?_|refine qT 6 (v:=?_) ?_ ?_|refine qT 7 (v:=?_) ?_ ?_|refine qT 8 (v:=?_) ?_ ?_
  rotate_left
  ·(intro W hSw;(have hcW:=hSw.cells;try simp only [qSd] at hcW);go_simp <;> rfl)
  try simp only [qPA]
 refine wpMono_one' 4 (by kernel_rfl) rfl (by rfl) (fun K hK=>?_)
 go_simp
 refine (compare_string x1 y1 _).mono ?_
 rintro e w1 ⟨rfl,rfl⟩
 rw [Ha.out]
 refine hK.out _ _ ?_ ?_
 ·exact .refl _ _
 clear hK K
 try simp only [qPA]
 refine wpMono_one' 9 (by kernel_rfl) rfl (by rfl) (fun K hK=>?_)
 go_simp
 refine (compare_string x2 y2 _).mono ?_
 rintro e w1 ⟨rfl,rfl⟩
 rw [Hb.out]
 refine hK.out _ _ ?_ ?_
 ·exact .refl _ _
 clear hK K
 try simp only [qPA]
 refine wpMono_one' 10 (by kernel_rfl) rfl (by rfl) (fun K hK=>?_)
 go_simp
 refine hK.out _ _ ?_ ?_
 ·exact .alloc _
 clear hK K
 try simp only [qPA]
 refine wpMono_one' 11 (by kernel_rfl) rfl (by rfl) (fun K hK=>?_)
 go_simp
 refine (or_any _ 2 2 [a,b] _ rfl (by decide) (by exact Reads.newAtD _ _ _ _ (by simp) rfl)).mono ?_
 rintro e w1 ⟨rfl,rfl⟩
 rw [Hf.out]
 refine hK.out _ _ ?_ ?_
 ·exact .refl _ _
 clear hK K
 try simp only [qPA]
 refine qT 12 (v:=?_) ?_ ?_;rotate_left
 ·(intro W hSw;(have hcW:=hSw.cells;try simp only [qSd] at hcW);go_simp <;> rfl)
 try simp only [qPA]
 refine wpMono_done (by kernel_rfl) ?_ _
 go_wp2
 go_ret
 exact ⟨rfl,by exact (((Grown.refl w).alloc _).alloc _).alloc _ |>.drew⟩
end Go.Proofs.YtdaphppdmnmicaaGreatDoor.store
namespace Go.Proofs.YtdaphppdmnmicaaGreatDoor.store
open Go Go.RowKit base cmp above law merge rows rowe
instance:Inhabited R:=⟨((⟨#[]⟩,⟨#[]⟩),zeroC)⟩
theorem flatK_list (d:Array R):(Go.Sort.flatK rcells 7 d).toList=d.toList.flatMap rcells:=by
 have hl:=len_flat rcells rlen d.toList
 refine List.ext_getElem? fun t=>?_
 by_cases ht:t < d.size * 7
 ·have h1:t / 7 < d.size:=by omega
  have h2:t % 7 < 7:=Nat.mod_lt _ (by decide)
  have h3:=get_flat rcells rlen d.toList (t / 7) (t % 7) (by simpa using h1) h2
  rw [show t / 7 * 7 + t % 7=t by omega] at h3
  rw [h3]
  have h4:=Go.Sort.get_flatK rcells 7 d t ht
  have hs:t < (Go.Sort.flatK rcells 7 d).size:=by rw [Go.Sort.size_flatK];exact ht
  rw [getElem!_pos _ t hs,getElem!_pos d (t / 7) h1] at h4
  have h5:t % 7 < (rcells d[t / 7]).length:=by rw [rlen];exact h2
  rw [getElem!_pos (rcells d[t / 7]) (t % 7) h5] at h4
  rw [List.getElem?_eq_getElem (by simpa using hs),List.getElem?_eq_getElem (by simpa using h5)]
  simpa using h4
 ·rw [List.getElem?_eq_none (by simp;omega),List.getElem?_eq_none (by rw [hl];simp;omega)]
theorem ltOf_lt (x y:R):ltOf (fun a b:R=>cmpN a.1 b.1) x y=ltN x.1 y.1:=cmpN_lt _ _
theorem swo:Go.Sort.SWO (ltOf fun a b:R=>cmpN a.1 b.1) where
 irrefl x:=by rw [ltOf_lt];exact ltN_irrefl _
 trans x y z h1 h2:=by rw [ltOf_lt] at *;exact ltN_trans h1 h2
 ntrans x y z h1 h2:=by
  rw [ltOf_lt] at *
  rw [Bool.eq_false_iff]
  intro h
  rcases ltN_tri x.1 y.1 with e|e|e
  ·rw [e] at h;rw [h] at h2;cases h2
  ·rw [e] at h1;cases h1
  ·have:=ltN_trans e h
   rw [this] at h2;cases h2
theorem isAggR (w:World):(isAgg 274).run Tryz.prog w=.ok true w:=by kernel_rfl
theorem sizeOfR (w:World):(Go.sizeOf 274).run Tryz.prog w=.ok 7 w:=by kernel_rfl
abbrev rowT:TypeId:=274
def SortR (base:Nat) (v:Value) (n:Nat) (L:List R) (w:World) (e:Ending) (w':World):Prop :=
 e=.returned (.tuple #[])∧w'.ownsRow base rowT 7 v n (L.flatMap rcells)∧Keeps (fun i=>v.ownBlock=some i) w w'
theorem sort_any (base:Nat) (v:Value) (n:Nat) (l L:List R) (w:World) (hr:Rising L) (hp:l.Perm L) (hl:l.length=n) (hn:n≤1000000) (hown:w.ownsRow base rowT 7 v n (l.flatMap rcells)) :
  Calls Tryz.prog 149 #[v,.func (.func 150) #[] #[]] w (SortR base v n L w):=by
 rcases hown.2 with ⟨rfl,rfl⟩|⟨g,cap,cur,rfl,hb,hg,hnc,hcm,hcs,htake⟩
 ·have hl0:l=[]:=List.eq_nil_of_length_eq_zero hl
  subst hl0
  have hL0:L=[]:=hp.symm.eq_nil
  subst hL0
  have h:=AnyF.slices_SortFunc_none Tryz.sortRow none 0 (.func (.func 150) #[] #[]) w
  change Calls Tryz.prog 149 _ _ _ at h
  exact h.mono fun e w' ⟨he,hw⟩=>by subst hw;exact ⟨he,hown,Keeps.refl _ _⟩
 ·have hd:l.toArray.size=n:=by simpa using hl
  have hfl:=flatK_list l.toArray
  rw [show l.toArray.toList=l by simp] at hfl
  have hblk:Blk w g rowT cur:=hg
  have hH:Go.Sort.HoldsK rcells 7 w g 0 l.toArray:=by
   intro j hj
   have hjs:j < (l.flatMap rcells).length:=by rw [len_flat rcells rlen];rw [Go.Sort.size_flatK] at hj;simpa using hj
   refine ⟨?_,hblk.frozen _⟩
   rw [Nat.zero_add,hblk.cell j]
   rw [getElem!_pos _ j hj]
   have h1:(Go.Sort.flatK rcells 7 l.toArray)[j]=(l.flatMap rcells)[j]:=by
    have:(Go.Sort.flatK rcells 7 l.toArray).toList[j]'(by simpa using hj)=(l.flatMap rcells)[j]:=by simp only [hfl]
    simpa using this
   rw [h1]
   have h2:cur.toList[j]?=(l.flatMap rcells)[j]?:=by
    have hjn:j < n * 7:=by rw [len_flat rcells rlen,hl] at hjs;exact hjs
    rw [← htake,List.getElem?_take_of_lt hjn]
   rw [← Array.getElem?_toList,h2,List.getElem?_eq_getElem hjs]
   rfl
  have hcmp:CmpLays Tryz.prog 150 #[] rcells 7 (fun a b:R=>cmpN a.1 b.1) g 0 l.toArray.size w:=fun m os dk _ x y=>compare_any x y _
  have eg:∀ args w,(callFunc 150 args).run Tryz.prog w=.ok (.enter 150 args) w:=enters_of Tryz.func150 (by kernel_rfl) rfl
  have h:=AnyQ.slices_SortFunc Tryz.sortRow 7 isAggR sizeOfR rcells rlen (fun x v hv=>(List.all_eq_true.1 (rone x)) v hv) (fun a b:R=>cmpN a.1 b.1) swo 150 #[] g 0 cap l.toArray w eg hcmp hH hblk.lt (by omega)
  change Calls Tryz.prog 149 _ _ _ at h
  rw [hd] at h
  refine h.mono fun e w' ⟨he,d',m,os,hpm,hso,hw⟩=>⟨he,?_,?_⟩
  ·obtain ⟨hs,_,hp2⟩:=hpm
   have hs':d'.size=n:=by omega
   have hp3:d'.toList.Perm l:=by
    have e1:d'.extract 0 n=d':=by rw [← hs'];simp
    have e2:l.toArray.extract 0 n=l.toArray:=by rw [← hd];simp
    rw [e1,e2] at hp2
    simpa using hp2
   have hL:d'.toList=L:=by
    refine perm_rising hr (hp3.trans hp) (List.pairwise_iff_getElem.2 fun i j hi hj hij=>?_)
    have:=hso i j (Nat.zero_le _) hij (by simp at hj;omega)
    rw [ltOf_lt] at this
    rw [getElem!_pos d' j (by simpa using hj),getElem!_pos d' i (by simpa using hi)] at this
    simpa using this
   have hf2:=flatK_list d'
   rw [hL] at hf2
   subst hw
   have hLn:L.length=n:=by rw [← hp.length_eq];exact hl
   have hlen:(L.flatMap rcells).length=n * 7:=by rw [len_flat rcells rlen,hLn]
   have hle:n * 7≤cap * 7:=Nat.mul_le_mul_right _ hnc
   refine ⟨hlen,.inr ⟨g,cap,Go.Sort.putCells id 0 (Go.Sort.flatK rcells 7 d') cur,rfl,hb,?_,hnc,hcm,by simp [Go.Sort.putCells,hcs],?_⟩⟩
   ·have h1:(Go.Sort.mapBlock (Go.Sort.ahead w m) g (Go.Sort.putCells id 0 (Go.Sort.flatK rcells 7 d'))).heap[g]?=some (.cells (Go.Sort.putCells id 0 (Go.Sort.flatK rcells 7 d') cur) rowT (0,0)):=by
     simp [Go.Sort.mapBlock,Go.Sort.ahead,Array.getElem?_modify,hg,Go.Sort.onCells]
    unfold sortWorldK Go.Sort.putRowK Go.Sort.putRow Go.Sort.grow
    rw [Array.getElem?_append_left (by simp [Go.Sort.mapBlock,Go.Sort.ahead];exact hblk.lt)]
    exact h1
   ·refine List.ext_getElem? fun t=>?_
    by_cases ht:t < n * 7
    ·rw [List.getElem?_take_of_lt ht,← hf2]
     simp only [Go.Sort.putCells,Array.getElem?_toList,Array.getElem?_mapIdx]
     have hc:t < cur.size:=by omega
     have hsz:t < (Go.Sort.flatK rcells 7 d').size:=by rw [Go.Sort.size_flatK,hs'];exact ht
     rw [Array.getElem?_eq_getElem hc,Array.getElem?_eq_getElem hsz]
     simp only [Option.map_some,Nat.zero_le,true_and,Nat.zero_add,Nat.sub_zero,hsz,if_true,id]
     rw [getElem!_pos _ t hsz]
    ·rw [List.getElem?_eq_none (by simp;omega),List.getElem?_eq_none (by omega)]
  ·subst hw
   refine ⟨rfl,rfl,rfl,by simp [sortWorldK,Go.Sort.putRowK,Go.Sort.grow,Go.Sort.putRow,Go.Sort.mapBlock,Go.Sort.ahead],fun i hi hx=>?_⟩
   have hne:g ≠ i:=fun e=>hx (by simp [Value.ownBlock,e])
   unfold sortWorldK Go.Sort.putRowK Go.Sort.putRow Go.Sort.grow
   rw [Array.getElem?_append_left (by simp [Go.Sort.mapBlock,Go.Sort.ahead];exact hi)]
   simp [Go.Sort.mapBlock,Go.Sort.ahead,Array.getElem?_modify,hne]
end Go.Proofs.YtdaphppdmnmicaaGreatDoor.store
