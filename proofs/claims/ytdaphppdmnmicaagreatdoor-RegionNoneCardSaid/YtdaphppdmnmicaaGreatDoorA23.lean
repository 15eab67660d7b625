/- A part of the proof of RegionNone: JrnF. -/
import Derived.Test.YtdaphppdmnmicaaGreatDoorA01
namespace Go.Proofs.YtdaphppdmnmicaaGreatDoor.jrnp
open framep wirep diskp
theorem app_full {d:Dk} {t:List UInt8} (h1:d.down=false) (hr:¬ d.b.length + t.length≤d.room):appD d t=(d,4):=by
 unfold appD
 rw [if_pos ⟨h1,by omega⟩]
theorem mark_full {d:Dk} (g:Nat) (h1:d.down=false) (h2:d.fuse < 0) (hr:¬ d.b.length + (Part.mk 4 g d.b.length []).sealed.length≤d.room) :
  markJ d g=({ d with safe:=d.b.length },4):=by
 unfold markJ
 rw [sync_well h1 h2,if_pos rfl]
 dsimp only
 have hs:safeD { d with safe:=d.b.length }=d.b.length:=safe_well (d:={ d with safe:=d.b.length }) h1
 have ha:=app_full (d:={ d with safe:=d.b.length }) (t:=(Part.mk 4 g d.b.length []).sealed) h1 hr
 rw [hs,ha,if_neg (fun h=>by cases h)]
theorem put_len (g:Nat) (l:List Part) (rs:List (List UInt8)) :
  (dev (putL g l rs)).length=(dev l).length + (dev (recsL g (dev l).length rs)).length + (Part.mk 4 g (dev (l ++ recsL g (dev l).length rs)).length []).sealed.length:=by
 unfold putL markL
 rw [dev_app,dev_app,List.length_append,List.length_append]
 simp [dev]
theorem put_full {d:Dk} {l:List Part} (g:Nat) (rs:List (List UInt8)) (h:Well d l) (hr:¬ (dev (putL g l rs)).length≤d.room):putJ d g rs=(d,4):=by
 have hself:({ d with b:=d.b.take d.b.length,safe:=min d.safe d.b.length }:Dk)=d:=by
  have e1:d.b.take d.b.length=d.b:=List.take_length
  have e2:min d.safe d.b.length=d.safe:=by rw [h.safe];exact Nat.min_self _
  rw [e1,e2]
 have hl:lenD d=d.b.length:=by unfold lenD;rw [h.down];rfl
 have hF:framesB d g rs=dev (recsL g (dev l).length rs):=by unfold framesB;rw [safe_well h.down,h.safe,h.b,recs_dev]
 unfold putJ
 rw [hl,hF]
 rw [put_len] at hr
 rw [dev_app,List.length_append] at hr
 generalize dev (recsL g (dev l).length rs)=F at *
 rw [← h.b] at hr
 unfold writeJ write0
 by_cases hf:d.b.length + F.length≤d.room
 ·rw [app_well h.down h.fuse hf,if_pos rfl]
  dsimp only
  have hm:=mark_full (d:={ d with b:=d.b ++ F }) g h.down h.fuse (by rw [List.length_append];exact hr)
  rw [hm,if_pos rfl]
  have hc:=cut_well (d:={ d with b:=d.b ++ F,safe:=(d.b ++ F).length }) (n:=d.b.length) h.down h.fuse (by rw [List.length_append];omega)
  dsimp only at hc ⊢
  rw [hc,if_pos rfl,List.take_left']
  ·have e:min (d.b ++ F).length d.b.length=d.safe:=by rw [List.length_append,h.safe];omega
   rw [e]
  ·rfl
 ·have hw:(if (appD d F).2=0 then markJ (appD d F).1 g else appD d F)=(d,4):=by rw [app_full h.down hf,if_neg (fun h=>by cases h)]
  rw [hw,if_pos rfl]
  have hc:=cut_well (d:=d) (n:=d.b.length) h.down h.fuse (Nat.le_refl _)
  rw [hself] at hc
  dsimp only
  rw [hc,if_pos rfl]
def putD (g:Nat) (l:List Part) (rs:List (List UInt8)) (d:Dk):Dk:={ d with b:=dev (putL g l rs),safe:=(dev (putL g l rs)).length }
theorem put_ok {d:Dk} {l:List Part} (g:Nat) (rs:List (List UInt8)) (h:Well d l) (g1:1≤g) (g2:g≤1099511627776) (hrs:∀ s ∈ rs,s.length≤4096) (hr:(dev (putL g l rs)).length≤1048576):Well (putD g l rs d) (putL g l rs):=by
 have hb:=h.few
 rw [h.b] at hb
 have hlen:=put_len g l rs
 refine ⟨rfl,rfl,h.fuse,h.down,?_,hr⟩
 intro p hp
 unfold putL markL recsL at hp
 rcases List.mem_append.1 hp with hp|hp
 ·rcases List.mem_append.1 hp with hp|hp
  ·exact h.ok p hp
  ·obtain ⟨s,hs,rfl⟩:=List.mem_map.1 hp
   exact ⟨by show 1≤2;omega,by show 2≤4;omega,g1,g2,by show (dev l).length≤_;omega,hrs s hs,.inl rfl⟩
 ·rw [List.mem_singleton.1 hp]
  refine ⟨by show 1≤4;omega,by show 4≤4;omega,g1,g2,?_,by show 0≤4096;omega,.inr rfl⟩
  show (dev (l ++ _)).length≤_
  have h2:(dev (l ++ recsL g (dev l).length rs)).length=(dev l).length + (dev (recsL g (dev l).length rs)).length:=by rw [dev_app,List.length_append]
  have h3:(dev (l ++ recsL g (dev l).length rs)).length≤1048576:=by omega
  unfold recsL at h3
  omega
theorem seal_le (p:Part) (h:p.Ok) (k:Nat) (hk:p.text.length≤k):p.sealed.length≤121 + 2 * k:=by
 unfold Part.sealed Part.bytes textW
 rw [seal_len]
 have h1:=numW_len 8 p.kind (by have:=h.k4;omega)
 have h2:=numW_len 8 p.gen (by have:=h.g2;omega)
 have h3:=numW_len 8 p.place (by have:=h.pl;omega)
 have h4:=numW_len 8 p.text.length (by have:=h.tx;omega)
 simp only [List.length_append]
 omega
theorem recs_le (g place k:Nat) (rs:List (List UInt8)) (g1:1≤g) (g2:g≤1099511627776) (hp:place≤1048576) (hk:k≤4096) (hrs:∀ s ∈ rs,s.length≤k):(dev (recsL g place rs)).length≤rs.length * (121 + 2 * k):=by
 induction rs with
 | nil=>simp [dev,recsL]
 | cons s rs ih =>
  have h1:=ih (fun t ht=>hrs t (by simp [ht]))
  have h2:=seal_le (Part.mk 2 g place s) ⟨by show 1≤2;omega,by show 2≤4;omega,g1,g2,by show place≤_;omega,by show s.length≤4096;have:=hrs s (by simp);omega,.inl rfl⟩ k (hrs s (by simp))
  have e:recsL g place (s :: rs)=Part.mk 2 g place s :: recsL g place rs:=rfl
  rw [e,dev_cons,List.length_append,List.length_cons,Nat.add_mul]
  omega
end Go.Proofs.YtdaphppdmnmicaaGreatDoor.jrnp
