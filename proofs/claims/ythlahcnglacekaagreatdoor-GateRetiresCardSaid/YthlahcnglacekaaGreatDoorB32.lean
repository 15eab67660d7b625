/- Part of GateRetires. -/
import Derived.Test.YthlahcnglacekaaGreatDoorB19
import Derived.Test.YthlahcnglacekaaGreatDoorB15
set_option maxRecDepth 100000
set_option maxHeartbeats 16000000
namespace Go.Proofs.YthlahcnglacekaaGreatDoor
namespace store
open Go Go.RowKit base map_ err cmp above law merge rows rowe Go.Maps monoj
def rcells (x:R):List Value:=[.string x.1.1,.string x.1.2,.int .i64 x.2.t,.int .i64 x.2.r,.string x.2.v,.bool x.2.g,.int .i64 x.2.l]
theorem rlen (x:R):(rcells x).length=7:=rfl
theorem rone (x:R):(rcells x).all (·.oneCell')=true:=rfl
def Grown (W w':World):Prop:=∃ q os,w'=Go.Sort.grow (W.drewN q) os
theorem Grown.refl (W:World):Grown W W:=⟨0,#[],by simp [World.drewN]⟩
theorem Grown.alloc {W w':World} (h:Grown W w') (o:Obj):Grown W (w'.alloc o):=by
 obtain ⟨q,os,rfl⟩:=h;exact ⟨q,os++#[o],by rw [Go.Sort.alloc_eq_grow,Go.Sort.grow_grow]⟩
theorem Grown.drew {W w':World} (h:Grown W w'):Grown W w'.drew:=by
 obtain ⟨q,os,rfl⟩:=h;exact ⟨q+1,os,rfl⟩
theorem compare_any (x y:R) (w:World):Calls Tryz.prog 148 #[.agg ⟨rcells x⟩,.agg ⟨rcells y⟩] w fun e w'=>e=.returned (.int .i64 (cmpN x.1 y.1))∧Grown w w':=by
 obtain ⟨⟨x1,x2⟩,xc⟩:=x;obtain ⟨⟨y1,y2⟩,yc⟩:=y;unfold cmpN rcells;rw [←firstNZ_two];dsimp only;generalize ha:cmpS x1 y1=a;generalize hb:cmpS x2 y2=b;generalize hf:firstNZ [a,b]=f;have Ha:=qH ha;have Hb:=qH hb;have Hf:=qH hf;clear ha hb hf;go_enter Tryz.func148,Tryz.ntmps148;go_wp2_with fail;refine wp_region_mono nobody (by kernel_rfl) ?_
 iterate 8
  first|refine qT 0 (v:=?_) ?_ ?_|refine qT 1 (v:=?_) ?_ ?_|refine qT 2 (v:=?_) ?_ ?_|refine qT 3 (v:=?_) ?_ ?_|refine qT 5 (v:=?_) ?_ ?_|refine qT 6 (v:=?_) ?_ ?_|refine qT 7 (v:=?_) ?_ ?_|refine qT 8 (v:=?_) ?_ ?_
  rotate_left
  ·(intro W hSw;(have hcW:=hSw.cells;try simp only [qSd] at hcW);go_simp <;> rfl)
  try simp only [qPA]
 refine wpMono_one' 4 (by kernel_rfl) rfl (by rfl) (fun K hK=>?_)
 go_simp
 refine (compare_string x1 y1 _).mono ?_;rintro e w1 ⟨rfl,rfl⟩;rw [Ha.out];refine hK.out _ _ ?_ ?_
 ·exact .refl _ _
 clear hK K
 try simp only [qPA]
 refine wpMono_one' 9 (by kernel_rfl) rfl (by rfl) (fun K hK=>?_)
 go_simp
 refine (compare_string x2 y2 _).mono ?_;rintro e w1 ⟨rfl,rfl⟩;rw [Hb.out];refine hK.out _ _ ?_ ?_
 ·exact .refl _ _
 clear hK K
 try simp only [qPA]
 refine wpMono_one' 10 (by kernel_rfl) rfl (by rfl) (fun K hK=>?_)
 go_simp
 refine hK.out _ _ ?_ ?_
 ·exact .alloc _
 clear hK K
 try simp only [qPA]
 refine wpMono_one' 11 (by kernel_rfl) rfl (by rfl) (fun K hK=>?_)
 go_simp
 refine (or_any _ 2 2 [a,b] _ rfl (by decide) (by exact Reads.newAtD _ _ _ _ (by simp) rfl)).mono ?_;rintro e w1 ⟨rfl,rfl⟩;rw [Hf.out];refine hK.out _ _ ?_ ?_
 ·exact .refl _ _
 clear hK K
 try simp only [qPA]
 refine qT 12 (v:=?_) ?_ ?_;rotate_left
 ·(intro W hSw;(have hcW:=hSw.cells;try simp only [qSd] at hcW);go_simp <;> rfl)
 try simp only [qPA]
 refine wpMono_done (by kernel_rfl) ?_ _;go_wp2;go_ret
 exact ⟨rfl,by exact (((Grown.refl w).alloc _).alloc _).alloc _ |>.drew⟩
end store
namespace store
open Go Go.RowKit base cmp above law merge rows rowe
instance:Inhabited R:=⟨((⟨#[]⟩,⟨#[]⟩),zeroC)⟩
theorem flatK_list (d:Array R):(Go.Sort.flatK rcells 7 d).toList=d.toList.flatMap rcells:=by
 have hl:=len_flat rcells rlen d.toList;refine List.ext_getElem? fun t=>?_
 by_cases ht:t<d.size*7
 ·have h1:t / 7<d.size:=by omega
  have h2:t % 7<7:=Nat.mod_lt _ (by decide);have h3:=get_flat rcells rlen d.toList (t / 7) (t % 7) (by simpa using h1) h2;rw [show t / 7*7+t % 7=t by omega] at h3;rw [h3];have h4:=Go.Sort.get_flatK rcells 7 d t ht;have hs:t<(Go.Sort.flatK rcells 7 d).size:=by rw [Go.Sort.size_flatK];exact ht
  rw [getElem!_pos _ t hs,getElem!_pos d (t / 7) h1] at h4;have h5:t % 7<(rcells d[t / 7]).length:=by rw [rlen];exact h2
  rw [getElem!_pos (rcells d[t / 7]) (t % 7) h5] at h4;rw [List.getElem?_eq_getElem (by simpa using hs),List.getElem?_eq_getElem (by simpa using h5)]
  simpa using h4
 ·rw [List.getElem?_eq_none (by simp;omega),List.getElem?_eq_none (by rw [hl];simp;omega)]
theorem ltOf_lt (x y:R):ltOf (fun a b:R=>cmpN a.1 b.1) x y=ltN x.1 y.1:=cmpN_lt _ _
theorem swo:Go.Sort.SWO (ltOf fun a b:R=>cmpN a.1 b.1) where
 irrefl x:=by rw [ltOf_lt];exact ltN_irrefl _
 trans x y z h1 h2:=by rw [ltOf_lt] at *;exact ltN_trans h1 h2
 ntrans x y z h1 h2:=by
  rw [ltOf_lt] at *;rw [Bool.eq_false_iff];intro h
  rcases ltN_tri x.1 y.1 with e|e|e
  ·rw [e] at h;rw [h] at h2;cases h2
  ·rw [e] at h1;cases h1
  ·have:=ltN_trans e h
   rw [this] at h2;cases h2
theorem isAggR (w:World):(isAgg 246).run Tryz.prog w=.ok true w:=by kernel_rfl
theorem sizeOfR (w:World):(Go.sizeOf 246).run Tryz.prog w=.ok 7 w:=by kernel_rfl
abbrev rowT:TypeId:=246
def SortR (base:Nat) (v:Value) (n:Nat) (L:List R) (w:World) (e:Ending) (w':World):Prop :=
 e=.returned (.tuple #[])∧w'.ownsRow base rowT 7 v n (L.flatMap rcells)∧Keeps (fun i=>v.ownBlock=some i) w w'
theorem sort_any (base:Nat) (v:Value) (n:Nat) (l L:List R) (w:World) (hr:Rising L) (hp:l.Perm L) (hl:l.length=n) (hn:n≤1000000) (hown:w.ownsRow base rowT 7 v n (l.flatMap rcells)) :
  Calls Tryz.prog 246 #[v,.func (.func 148) #[] #[]] w (SortR base v n L w):=by
 rcases hown.2 with ⟨rfl,rfl⟩|⟨g,cap,cur,rfl,hb,hg,hnc,hcm,hcs,htake⟩
 ·have hl0:l=[]:=List.eq_nil_of_length_eq_zero hl
  subst hl0;have hL0:L=[]:=hp.symm.eq_nil;subst hL0;have h:=AnyF.slices_SortFunc_none Tryz.sortRow none 0 (.func (.func 148) #[] #[]) w;change Calls Tryz.prog 246 _ _ _ at h;exact h.mono fun e w' ⟨he,hw⟩=>by subst hw;exact ⟨he,hown,Keeps.refl _ _⟩
 ·have hd:l.toArray.size=n:=by simpa using hl
  have hfl:=flatK_list l.toArray;rw [show l.toArray.toList=l by simp] at hfl;have hblk:Blk w g rowT cur:=hg
  have hH:Go.Sort.HoldsK rcells 7 w g 0 l.toArray:=by
   intro j hj;have hjs:j<(l.flatMap rcells).length:=by rw [len_flat rcells rlen];rw [Go.Sort.size_flatK] at hj;simpa using hj
   refine ⟨?_,hblk.frozen _⟩;rw [Nat.zero_add,hblk.cell j];rw [getElem!_pos _ j hj]
   have h1:(Go.Sort.flatK rcells 7 l.toArray)[j]=(l.flatMap rcells)[j]:=by
    have:(Go.Sort.flatK rcells 7 l.toArray).toList[j]'(by simpa using hj)=(l.flatMap rcells)[j]:=by simp only [hfl]
    simpa using this
   rw [h1]
   have h2:cur.toList[j]?=(l.flatMap rcells)[j]?:=by
    have hjn:j<n*7:=by rw [len_flat rcells rlen,hl] at hjs;exact hjs
    rw [←htake,List.getElem?_take_of_lt hjn]
   rw [←Array.getElem?_toList,h2,List.getElem?_eq_getElem hjs];rfl
  have hcmp:CmpLays Tryz.prog 148 #[] rcells 7 (fun a b:R=>cmpN a.1 b.1) g 0 l.toArray.size w:=fun m os dk _ x y=>compare_any x y _;have eg:∀ args w,(callFunc 148 args).run Tryz.prog w=.ok (.enter 148 args) w:=enters_of Tryz.func148 (by kernel_rfl) rfl;have h:=AnyQ.slices_SortFunc Tryz.sortRow 7 isAggR sizeOfR rcells rlen (fun x v hv=>(List.all_eq_true.1 (rone x)) v hv) (fun a b:R=>cmpN a.1 b.1) swo 148 #[] g 0 cap l.toArray w eg hcmp hH hblk.lt (by omega);change Calls Tryz.prog 246 _ _ _ at h;rw [hd] at h;refine h.mono fun e w' ⟨he,d',m,os,hpm,hso,hw⟩=>⟨he,?_,?_⟩
  ·obtain ⟨hs,_,hp2⟩:=hpm
   have hs':d'.size=n:=by omega
   have hp3:d'.toList.Perm l:=by
    have e1:d'.extract 0 n=d':=by rw [←hs'];simp
    have e2:l.toArray.extract 0 n=l.toArray:=by rw [←hd];simp
    rw [e1,e2] at hp2
    simpa using hp2
   have hL:d'.toList=L:=by
    refine perm_rising hr (hp3.trans hp) (List.pairwise_iff_getElem.2 fun i j hi hj hij=>?_);have:=hso i j (Nat.zero_le _) hij (by simp at hj;omega);rw [ltOf_lt] at this;rw [getElem!_pos d' j (by simpa using hj),getElem!_pos d' i (by simpa using hi)] at this
    simpa using this
   have hf2:=flatK_list d';rw [hL] at hf2;subst hw;have hLn:L.length=n:=by rw [←hp.length_eq];exact hl
   have hlen:(L.flatMap rcells).length=n*7:=by rw [len_flat rcells rlen,hLn]
   have hle:n*7≤cap*7:=Nat.mul_le_mul_right _ hnc;refine ⟨hlen,.inr ⟨g,cap,Go.Sort.putCells id 0 (Go.Sort.flatK rcells 7 d') cur,rfl,hb,?_,hnc,hcm,by simp [Go.Sort.putCells,hcs],?_⟩⟩
   ·have h1:(Go.Sort.mapBlock (Go.Sort.ahead w m) g (Go.Sort.putCells id 0 (Go.Sort.flatK rcells 7 d'))).heap[g]?=some (.cells (Go.Sort.putCells id 0 (Go.Sort.flatK rcells 7 d') cur) rowT (0,0)):=by
     simp [Go.Sort.mapBlock,Go.Sort.ahead,Array.getElem?_modify,hg,Go.Sort.onCells]
    unfold sortWorldK Go.Sort.putRowK Go.Sort.putRow Go.Sort.grow;rw [Array.getElem?_append_left (by simp [Go.Sort.mapBlock,Go.Sort.ahead];exact hblk.lt)];exact h1
   ·refine List.ext_getElem? fun t=>?_
    by_cases ht:t<n*7
    ·rw [List.getElem?_take_of_lt ht,←hf2]
     simp only [Go.Sort.putCells,Array.getElem?_toList,Array.getElem?_mapIdx];have hc:t<cur.size:=by omega
     have hsz:t<(Go.Sort.flatK rcells 7 d').size:=by rw [Go.Sort.size_flatK,hs'];exact ht
     rw [Array.getElem?_eq_getElem hc,Array.getElem?_eq_getElem hsz];simp only [Option.map_some,Nat.zero_le,true_and,Nat.zero_add,Nat.sub_zero,hsz,if_true,id];rw [getElem!_pos _ t hsz]
    ·rw [List.getElem?_eq_none (by simp;omega),List.getElem?_eq_none (by omega)]
  ·subst hw
   refine ⟨rfl,rfl,rfl,by simp [sortWorldK,Go.Sort.putRowK,Go.Sort.grow,Go.Sort.putRow,Go.Sort.mapBlock,Go.Sort.ahead],fun i hi hx=>?_⟩;have hne:g≠i:=fun e=>hx (by simp [Value.ownBlock,e]);unfold sortWorldK Go.Sort.putRowK Go.Sort.putRow Go.Sort.grow;rw [Array.getElem?_append_left (by simp [Go.Sort.mapBlock,Go.Sort.ahead];exact hi)];simp [Go.Sort.mapBlock,Go.Sort.ahead,Array.getElem?_modify,hne]
end store
namespace store
open Go Go.RowKit base map_ range_ cmp above law merge rows rowe Go.Maps
theorem row_info:(Tryz.prog.info? 246).map (fun i=>(i.zero,i.size,i.bytes))=some (some (.agg #[.string ⟨#[]⟩,.string ⟨#[]⟩,.int .i64 0,.int .i64 0,.string ⟨#[]⟩,.bool false,.int .i64 0]),7,80):=by kernel_rfl
theorem info_parts {o:Option TypeInfo} {z:Value} {s b:Nat} (h:o.map (fun i=>(i.zero,i.size,i.bytes))=some (some z,s,b)):∃ i,o=some i∧i.zero=some z∧i.size=s∧i.bytes=b:=by
 obtain ⟨i,hi,h2⟩:=Option.map_eq_some_iff.1 h;simp only [Prod.mk.injEq] at h2;exact ⟨i,hi,h2.1,h2.2.1,h2.2.2⟩
def enR (p:R):Nm × Value:=(p.1,cval p.2)
theorem cval_inj {a b:C} (h:cval a=cval b):a=b:=by
 obtain ⟨t,r,v,g,l⟩:=a;obtain ⟨t',r',v',g',l'⟩:=b;simp [cval] at h
 obtain ⟨rfl,rfl,rfl,rfl,rfl⟩:=h;rfl
theorem enR_inj {a b:R} (h:enR a=enR b):a=b:=by
 obtain ⟨a1,a2⟩:=a;obtain ⟨b1,b2⟩:=b;simp only [enR,Prod.mk.injEq] at h;rw [h.1,cval_inj h.2]
theorem get_mem' {κ:Type} [DecidableEq κ] {m:List (κ × Value)} (ha:Apart m) {x:κ} {v:Value} (h:(x,v) ∈ m):getM m x=some v:=by
 obtain ⟨j,hj,e⟩:=List.getElem_of_mem h;exact Go.Proofs.YthlahcnglacekaaGreatDoor.map_.get_at ha (j:=j) (by rw [List.getElem?_eq_getElem hj,e])
theorem map_rows {m:List (Nm × Value)} {L:List R} (ha:Apart m) (he:∀ x,getM m x=(getL L x).map cval):∀ p ∈ m,∃ x,p=enR x∧x ∈ L:=by
 rintro ⟨x,v⟩ hp;have h1:=get_mem' ha hp;rw [he] at h1
 cases hg:getL L x with
 | none=>rw [hg] at h1;cases h1
 | some c =>
  rw [hg] at h1;injection h1 with h1;exact ⟨(x,c),by rw [←h1];rfl,getL_mem hg⟩
theorem rows_perm {m:List (Nm × Value)} {L out:List R} (hr:Rising L) (ha:Apart m) (he:∀ x,getM m x=(getL L x).map cval) (hp:m.Perm (out.map enR)):out.Perm L:=by
 have hn:(out.map (·.1)).Nodup:=by
  have h1:(m.map (·.1)).Nodup:=ha;have h2:=(hp.map (·.1)).nodup_iff.1 h1;rw [List.map_map] at h2;exact h2
 have hn2:out.Nodup:=List.Pairwise.of_map (·.1) (fun a b h e=>h (by rw [e])) hn;rw [List.perm_ext_iff_of_nodup hn2 hr.nodup'];intro x
 constructor
 ·intro hx
  have h1:enR x ∈ m:=hp.mem_iff.2 (List.mem_map.2 ⟨x,hx,rfl⟩);obtain ⟨y,e,hy⟩:=map_rows ha he _ h1;rw [enR_inj e];exact hy
 ·intro hx
  have h1:getM m x.1=some (cval x.2):=by rw [he,getL_of hr (x:=x.1) (c:=x.2) hx];rfl
  have h2:=hp.mem_iff.1 (get_mem h1);obtain ⟨y,hy,e⟩:=List.mem_map.1 h2;have:y=x:=enR_inj e;rw [←this];exact hy
theorem own_keepR {X:Nat→Prop} {w w':World} {B:Nat} {e:TypeId} {size n:Nat} {v:Value} {xs:List Value} (h:w.ownsRow B e size v n xs) (hk:Keeps X w w') (hx:∀ g,v.ownBlock=some g→¬ X g):w'.ownsRow B e size v n xs:=by
 refine ⟨h.1,?_⟩
 rcases h.2 with hn|⟨g,cap,cur,hv,hb,hg,rest⟩
 ·exact .inl hn
 ·exact .inr ⟨g,cap,cur,hv,hb,(hk.block g (Blk.lt (t:=e) (cs:=cur) hg) (hx g (by rw [hv];rfl))).trans hg,rest⟩
theorem own_upR {w:World} {B B':Nat} {e:TypeId} {size n:Nat} {v:Value} {xs:List Value} (h:w.ownsRow B' e size v n xs) (hb:B≤B'):w.ownsRow B e size v n xs :=
 ⟨h.1,h.2.imp id fun ⟨g,cap,cur,h1,h2,r⟩=>⟨g,cap,cur,h1,by omega,r⟩⟩
theorem keeps_up {B:Nat} {w w':World} (h:Below B w w') (hs:w.heap.size≤w'.heap.size):Keeps (fun i=>B≤i) w w' :=
 ⟨h.os,h.tape,h.output,hs,fun i _ hx=>h.block i (by omega)⟩
theorem perm_shift {α:Type} {m o l1 l2:List α} {x:α} (h:m.Perm (o++(l1++x :: l2))):m.Perm ((o++[x])++(l1++l2)):=by
 refine h.trans ?_;rw [List.append_assoc];exact List.Perm.append_left o List.perm_middle
def RowsR (L:List R) (w:World) (e:Ending) (w':World):Prop :=
 ∃ v,e=.returned v∧w'.ownsRow w.heap.size rowT 7 v L.length (L.flatMap rcells)∧Below w.heap.size w w'
theorem rows_any (g bm:Nat) (L:List R) (w:World) (h:StI w g bm L) (hl:L.length≤1000000) :
  Calls Tryz.prog 218 #[.pointer (some ⟨g,0,none⟩)] w (RowsR L w):=by
 obtain ⟨m,h1,h2⟩:=h.map;obtain ⟨o,hrg,hit⟩:=h1.range (T:=mapT) Tryz.underlying252;have q0:w.cell? ⟨g,0,none⟩=_:=h.blk.cell 0;simp at q0
 have ql:=h.lt
 have hml:m.length=L.length:=by
  have ha:=h1.apart;have hall:=map_rows ha h2
  have:∃ out:List R,m=out.map enR:=by
   clear h1 h2 hit
   induction m with
   | nil=>exact ⟨[],rfl⟩
   | cons p m ih =>
    obtain ⟨x,e,_⟩:=hall p (by simp);obtain ⟨out,e2⟩:=ih (List.nodup_cons.1 (by exact ha)).2 (fun q hq=>hall q (by simp [hq]));exact ⟨x :: out,by rw [e,e2];rfl⟩
  obtain ⟨out,e⟩:=this;have hp:=rows_perm h.up ha h2 (out:=out) (by rw [e]);rw [e,List.length_map];exact hp.length_eq
 have hbw:Below w.heap.size w (w.alloc o):=below_new _ _;have hsz:(w.alloc o).heap.size=w.heap.size+1:=by simp
 have Hh2:=qH h2;have Hap:=qH h1.apart;have Hup:=qH h.up;have Hit:=qH hit;have Hbw:=qH hbw;have Hml:=qH hml;have Hsz:=qH hsz;have hbml:=h1.lt;generalize hr:w.heap.size=r at *;generalize w.alloc o=w1 at *;obtain ⟨i0,hi0,hz0,hz1,hz2⟩:=info_parts row_info;have Hi0:=qH hi0;have Hz0:=qH hz0;have Hz1:=qH hz1;have Hz2:=qH hz2;clear h h1 h2 hit hbw hml hi0 hz0 hz1 hz2 hsz;go_enter Tryz.func218,Tryz.ntmps218;go_wp2
 go_loopw [3] (fun s wr=>∃ left,∃ out:List R,IterM nameE wr r bm m left∧m.Perm (out.map enR++left)∧wr.ownsRow (r+1) rowT 7 s out.length (out.flatMap rcells)∧Below r w wr∧r<wr.heap.size) (fun _ wr=>leftN wr r bm)
 case atStart=>exact ⟨m,[],Hit.out,.refl _,⟨rfl,.inl ⟨rfl,rfl⟩⟩,Hbw.out,by rw [Hsz.out];omega⟩
 case round =>
  obtain ⟨left,out,i1,i2,i3,i4,i5⟩:=hrel;have hout:out.length+left.length=m.length:=by have:=i2.length_eq;simp at this;omega
  obtain ⟨A,c,rfl⟩:=ownsRow_slice i3
  rcases i1.next 0 with ⟨rfl,hrun⟩|⟨l1,p,l2,w3,rfl,hrun,i6,hen,hk3⟩
  ·have hperm:out.Perm L:=rows_perm Hup.out Hap.out Hh2.out (by simpa using i2)
   have hlen:=hperm.length_eq;have I3:=qH i3;have I4:=qH i4;have Hperm:=qH hperm;have Hlen:=qH hlen;have hol:out.length≤1000000:=by omega
   clear i1 i2 i3 i4 hperm hlen;go_wp2_with fail;refine (sort_any (r+1) (.slice A out.length c) out.length out L wr Hup.out Hperm.out rfl hol I3.out).mono ?_;rintro e w9 ⟨rfl,hown9,hk9⟩
   have HR:Hid (RowsR L w (.returned (.slice A out.length c)) w9):=qH (by
    refine ⟨_,rfl,?_,?_⟩
    ·rw [hr,←Hlen.out];exact own_upR hown9 (by omega)
    ·rw [hr];exact below_keeps I4.out (by rw [←hr];exact (by omega)) hk9 (fun i hi hx=>by have:=I3.out.lt i hx;omega))
   clear hown9 hk9;go_wp2;go_ret
   exact HR.out
  ·obtain ⟨x,rfl,hx⟩:=map_rows Hap.out Hh2.out p (by obtain ⟨_,_,_,_,_,_,_,_,_,_,_,_,_,hs⟩:=i1;exact hs p (by simp))
   obtain ⟨⟨x1,x2⟩,⟨t,rr,v,gn,l⟩⟩:=x;have I1:=qH i1;have I2:=qH i2;have I6:=qH i6;have I4:=qH (below_keeps i4 (by omega) hk3 (fun i hi hx=>by omega));have i3':=own_keepR i3 hk3 (fun i hi hx=>by have:=i3.lt i hi;omega);have hsz3:=hk3.size;have I3:=qH ((i3'.alloc (.cells #[.string x1,.string x2] 256)).alloc (.cells #[.int .i64 t,.int .i64 rr,.string v,.bool gn,.int .i64 l] 130));have hol:out.length+1≤1000000:=by have:=Hml.out;simp at hout;omega
   unfold enR cval nameE nameV at hrun hen;dsimp only at hrun hen;have Hk3:=qH hk3;have Hout:=qH hout;clear i1 i2 i3 i4 i6 hx hk3 i3' hout
   go_wp2_with (at_builtin;refine wpList_append_newAt rfl (.tmp 18) (.tmp 25) _ rfl (r+1) rowT i0 _ 7 80 Tryz.underlying99 Hi0.out Hz0.out Hz1.out Hz2.out rfl (by decide) _ _ _ rfl I3.out 1 1 (w3.heap.size+1+1) (by simp) [.string x1,.string x2,.int .i64 t,.int .i64 rr,.string v,.bool gn,.int .i64 l] rfl rfl (by simp [Value.oneCell']) (by unfold maxLen;omega) (by omega) (by simp;omega) ?_;intro v1 w5 hown1 hbw1 hgr1 hwh1;obtain ⟨A',c',rfl⟩:=ownsRow_slice hown1;have Hown1:=qH hown1;have Hbw1:=qH hbw1;clear hown1 hbw1 hgr1 hwh1)
   have hk35:Keeps (fun i=>r+1≤i) w3 w5:=((Keeps.alloc (.cells #[.string x1,.string x2] 256)).trans (Keeps.alloc (.cells #[.int .i64 t,.int .i64 rr,.string v,.bool gn,.int .i64 l] 130))).trans (keeps_up Hbw1.out Hbw1.out.size);have HK35:=qH hk35;have I7:=qH (I6.out.keeps hk35 (by omega) (by omega));have hz5:=hk35.size;clear hk35;go_roundw
   case rel =>
    refine ⟨l1++l2,out++[((x1,x2),⟨t,rr,v,gn,l⟩)],I7.out,?_,?_,below_keeps I4.out (by have:=I4.out.size;omega) HK35.out (fun i hi hx=>by omega),by omega⟩
    ·rw [List.map_append];exact perm_shift I2.out
    ·have:=Hown1.out
     simpa [rcells,List.flatMap_append] using this
   case measure =>
    rw [I7.out.size,I1.out.size,List.length_append,List.length_append,List.length_cons];omega
end store
namespace store
open Go Go.RowKit base err cmp above law merge rows rowe
theorem head_nil (s:ByteArray) (w:World):Calls Tryz.prog 112 #[.pointer none,.string s] w fun e w'=>e=.returned (cval zeroC)∧Below w.heap.size w w':=by
 go_enter Tryz.func112,Tryz.ntmps112;go_wp2;exact bodyPost_ret (v:=cval zeroC) (by simp [results,Tryz.results112,go_sem,cval,zeroC]) rfl ⟨rfl,below_new _ _⟩
end store
namespace store
open Go Go.RowKit base err cmp above law merge rows rowe
end store
end Go.Proofs.YthlahcnglacekaaGreatDoor
