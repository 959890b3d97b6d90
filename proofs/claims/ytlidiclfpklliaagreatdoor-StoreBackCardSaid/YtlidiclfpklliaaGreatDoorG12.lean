/- Fp6 FzM Fp7 PixPlain Quiet -/
import Derived.Test.YtlidiclfpklliaaGreatDoorG11
set_option linter.unusedSimpArgs false
set_option linter.unusedVariables false
set_option maxHeartbeats 4000000
namespace Go.Aq.Fy
open Go.Aq Go.RowKit
def bytesG (first:Nat) (g:Nat→Sec) (x:FileD):Sec:=(x.blocks.flatMap fun k=>g (first+k)).take x.size
theorem bytesB_G (F:FsD) (x:FileD):bytesB F x=bytesG (firstF F) F.disk.now x:=rfl
def viewG (first:Nat) (g:Nat→Sec) (fs:Files):View:=mapK (fun _ x=>bytesG first g x) fs
def viewF (F:FsD):View:=viewG (firstF F) F.disk.now F.files
theorem view_start (F:FsD):viewW (bytesB F) ⟨F.files,[]⟩=viewF F:=rfl
theorem bytesG_eq {first:Nat} {g g':Nat→Sec} {x:FileD} (h:∀k∈x.blocks,g (first+k)=g' (first+k)):bytesG first g x=bytesG first g' x:=by
 unfold bytesG
 congr 1
 induction hb:x.blocks with
 | nil=>rfl
 | cons k l ih=>
  rw[hb] at h
  have:∀(l:List Nat),(∀k∈l,g (first+k)=g' (first+k))→(l.flatMap fun k=>g (first+k))=l.flatMap fun k=>g' (first+k):=by
   intro l hl
   induction l with
   | nil=>rfl
   | cons k l ih=>rw[List.flatMap_cons,List.flatMap_cons,hl k (.head _),ih fun j hj=>hl j (.tail _ hj)]
  exact this _ h
theorem firstF_le {q:Nat} {F:FsD} (h:FInv q F):firstF F+allF F=F.disk.n:=by
 have:=h.geo.first
 unfold allF firstF
 omega
theorem prep_plan {q:Nat} {F:FsD} (h:FInv q F) (l:List ChangeD):
  (∃e,prepF F l=(e,[],[],F.log)∧e≠0∧(e=(allV (viewF F) l).2∨((allV (viewF F) l).2=0∧(e=8∨e=9))))∨
  ((allV (viewF F) l).2=0∧∃bl fs,prepF F l=(0,stagesF F bl fs,fs,logF F fs)∧Plan F bl fs∧
   (∀s,lookK s (allW F ⟨F.files,[]⟩ l).1.fresh=none→lookK s fs=lookK s (allW F ⟨F.files,[]⟩ l).1.files)∧
   ∀g,Keeps F g→Has bl g→viewG (firstF F) g fs=(allV (viewF F) l).1):=by
 obtain⟨hW,hv,he⟩:=all_step (F:=F) l (WorkOk.start h.files)
 rw[view_start] at hv he
 generalize hr:allW F ⟨F.files,[]⟩ l=r at *
 unfold prepF
 simp only[hr]
 by_cases h1:r.2≠0
 ·rw[if_pos h1]
  exact .inl ⟨_,rfl,h1,.inl he⟩
 ·have h1':r.2=0:=by omega
  rw[if_neg h1]
  have e0:(allV (viewF F) l).2=0:=by rw[←he];exact h1'
  by_cases h2:(freeF F).length<needW r.1.fresh
  ·rw[if_pos h2]
   exact .inl ⟨8,rfl,by decide,.inr ⟨e0,.inl rfl⟩⟩
  ·rw[if_neg h2]
   by_cases h3:F.mt * 256<(tableB (placeF r.1.fresh (freeF F) r.1.files)).length
   ·rw[if_pos h3]
    exact .inl ⟨8,rfl,by decide,.inr ⟨e0,.inl rfl⟩⟩
   ·rw[if_neg h3]
    by_cases h4:F.log.ring<need (differB (homeL F.log+1) (sectorsB F.mt F.files) (sectorsB F.mt (placeF r.1.fresh (freeF F) r.1.files))).length
    ·rw[if_pos h4]
     exact .inl ⟨9,rfl,by decide,.inr ⟨e0,.inr rfl⟩⟩
    ·rw[if_neg h4]
     have hp:=PlaceOk.start h.files hW (Nat.not_lt.1 h2)
     obtain⟨p1,p2,p3,p4⟩:=place_ok (first:=firstF F) hp
     have hfl:=firstF_le h
     refine .inr ⟨e0,placeP (firstF F) r.1.fresh (freeF F),placeF r.1.fresh (freeF F) r.1.files,rfl,⟨fun p hp=>?_,?_,?_,Nat.not_lt.1 h4,Nat.not_lt.1 h3,p1⟩,p2,fun g hk hb=>?_⟩
     ·have h5:p.1∈(placeP (firstF F) r.1.fresh (freeF F)).map (·.1):=List.mem_map_of_mem hp
      rw[placeP_keys] at h5
      obtain⟨k,h6,h7⟩:=List.mem_map.1 h5
      exact⟨k,List.mem_of_mem_take h6,h7.symm⟩
     ·rw[placeP_keys]
      have h5:((freeF F).take (needW r.1.fresh)).Nodup:=(List.take_sublist _ _).nodup (List.Pairwise.filter _ List.nodup_range)
      exact List.pairwise_map.2 (h5.imp fun {a b} hab e=>hab (by omega))
     ·rw[←hfl]
      refine placeP_ok fun k hk=>?_
      unfold freeF at hk
      exact List.mem_range.1 (List.mem_filter.1 hk).1
     ·rw[←hv]
      refine asc_ext (mapK_asc p1.asc) (mapK_asc hW.asc) fun s=>?_
      unfold viewG
      rw[mapK_look,view_look]
      cases hf:lookK s r.1.fresh with
      | none=>
       rw[p2 s hf]
       cases hx:lookK s r.1.files with
       | none=>rfl
       | some x=>
        simp only[Option.map_some,bytesB_G]
        rw[bytesG_eq fun k hk'=>hk k (hW.used k (List.mem_flatMap.2 ⟨(s,x),look_mem hx,hk'⟩))]
      | some b=>
       obtain⟨ks,k1,k2,k3⟩:=p3 s b hf
       rw[k1,(hW.sub s b hf).1]
       simp only[Option.map_some]
       congr 1
       exact placed_bytes k2 fun p hp=>hb p (k3 p hp)
theorem new_inv {q:Nat} {F:FsD} {bl:Puts} {fs:Files} (h:FInv q F) (hp:Plan F bl fs) {D:DiskD} (hn:D.n=F.disk.n) (hr:Rest D) (hg:New F bl fs D.now):FInv (q+1) ⟨D,logF F fs,F.mt,fs⟩:=by
 have e1:(logF F fs).ring=F.log.ring:=by unfold logF;split <;> rfl
 have e2:(logF F fs).pos<F.log.ring:=by
  unfold logF;split
  ·exact h.geo.pos
  ·exact Nat.mod_lt _ h.geo.ring
 have e3:(logF F fs).seq≤q+1:=by
  have:=h.seq
  unfold logF;split
  ·omega
  ·show F.log.seq+1≤_;omega
 have e4:homeL (logF F fs)=homeL F.log:=by unfold homeL;rw[e1]
 have e5:allF ⟨D,logF F fs,F.mt,fs⟩=allF F:=by unfold allF firstF;simp only[e4,hn]
 refine⟨⟨by rw[hn];exact h.geo.n,by rw[e1];exact h.geo.ring,by rw[e1];exact e2,h.geo.mt,by rw[e4,hn];exact h.geo.first⟩,hr,e3,hg.1,hg.2.1,hp.tlen,by rw[e5];exact hp.ok⟩
theorem logF_first {F:FsD} {fs:Files} (D:DiskD) (m:Files):firstF ⟨D,logF F fs,F.mt,m⟩=firstF F:=by
 unfold firstF homeL logF
 split <;> rfl
theorem do_any {q:Nat} {F:FsD} (h:FInv q F) (hq:q<2^47) (l:List ChangeD):
  (∃e,doF F l=(F,e)∧e≠0∧(e=(allV (viewF F) l).2∨((allV (viewF F) l).2=0∧(e=8∨e=9))))∨
  ((allV (viewF F) l).2=0∧∃bl fs,Plan F bl fs∧
   (∀s,lookK s (allW F ⟨F.files,[]⟩ l).1.fresh=none→lookK s fs=lookK s (allW F ⟨F.files,[]⟩ l).1.files)∧
   (∀g,Keeps F g→Has bl g→viewG (firstF F) g fs=(allV (viewF F) l).1)∧
   ((∃D,doF F l=(⟨D,logF F fs,F.mt,fs⟩,0)∧D.n=F.disk.n∧Rest D∧New F bl fs D.now∧(F.disk.falls=0→D.falls=0))∨
    ∃D,doF F l=({ F with disk:=D },12)∧D.n=F.disk.n∧D.pend=[]∧D.dur=D.now∧D.falls=0∧D.down=true∧F.disk.falls≠0∧(∀k,(D.now k).length=256)∧(Old F D.now∨(diffF F fs≠[]∧(Mrk F bl fs D.now∨New F bl fs D.now))))):=by
 rcases prep_plan h l with ⟨e,h1,h2,h3⟩ | ⟨h1,bl,fs,h2,h3,h4,h5⟩
 ·left
  refine⟨e,?_,h2,h3⟩
  unfold doF
  simp only[h1]
  rw[if_pos h2]
 ·right
  refine⟨h1,bl,fs,h3,h4,h5,?_⟩
  have hok:=h3.stagesOk h
  unfold doF
  simp only[h2]
  rw[if_neg (by simp)]
  by_cases hf:F.disk.falls=0
  ·obtain⟨k,hk⟩:=runP_calm _ _ h.rest hf hok
   left
   rw[hk]
   simp only[if_true]
   refine⟨_,rfl,rfl,⟨h.rest.pend,rfl,h.rest.up,?_⟩,stages_new h3 h hq,fun e=>e⟩
   refine setAll_len (n:=F.disk.n) h.rest.len fun p hp=>?_
   obtain⟨m,hm,hp⟩:=List.mem_flatten.1 hp
   exact hok m hm p hp
  ·rcases runP_fall _ _ h.rest hok with ⟨k,f,hk,-⟩ | ⟨k,g,hc,hk⟩
   ·left
    rw[hk]
    simp only[if_true]
    refine⟨_,rfl,rfl,⟨h.rest.pend,rfl,h.rest.up,?_⟩,stages_new h3 h hq,fun e=>absurd e hf⟩
    refine setAll_len (n:=F.disk.n) h.rest.len fun p hp=>?_
    obtain⟨m,hm,hp⟩:=List.mem_flatten.1 hp
    exact hok m hm p hp
   ·right
    rw[hk]
    simp only[show ¬((12:Nat)=0) by decide,if_false]
    exact⟨_,rfl,rfl,rfl,rfl,rfl,rfl,hf,hc.len h.rest.len hok,stages_cut h3 h hq hc⟩
theorem FInv.more {q:Nat} {F:FsD} (h:FInv q F):FInv (q+1) F:=⟨h.geo,h.rest,by have:=h.seq;omega,h.lies,h.un,h.tlen,h.files⟩
def fmtL (r m:Nat):Puts:=(2+r,topB m)::(List.range m).map fun i=>(3+r+i,zsec)
def fmtG (f:Nat→Sec) (r m:Nat):Nat→Sec:=setAll (setAll f [(0,headB r 1 0),(1,zsec)]) (fmtL r m)
theorem put_calm {D:DiskD} (h:D.falls=0) (k:Nat) (b:Sec):putD D k b=({ D with writes:=wrap64 (D.writes+1),pend:=D.pend++[(k,b)],now:=setS D.now k b },0):=by
 unfold putD;rw[if_pos h]
theorem zsec_len:zsec.length=256:=by unfold zsec nul;exact List.length_replicate
theorem topB_len (m:Nat):(topB m).length=256:=fill_len4 (by simp[beB_length])
def fmtOk (n:Nat) (ring mt:Int):Prop:=1≤mt∧mt≤200∧1≤ring∧ring+mt+4≤n
theorem fmt_num {n r m:Nat} (hb:fmtOk n (r:Int) (m:Int)) (hle:n≤4096):∃x1 x2 x3 x4:Int,wrap64 ((n:Int) - 2)=x1∧wrap64 (x1 - (r:Int))=x2∧wrap64 (x2 - 1)=x3∧wrap64 (x3 - (m:Int))=x4∧decide (x4<1)=false∧wrap64 (2+(r:Int))=((2+r:Nat):Int)∧wrap64 (3+(r:Int))=((3+r:Nat):Int):=by
 unfold fmtOk at hb
 refine⟨(n:Int) - 2,(n:Int) - 2 - r,(n:Int) - 2 - r - 1,(n:Int) - 2 - r - 1 - m,?_,?_,?_,?_,decide_eq_false (by omega),?_,?_⟩ <;> unfold wrap64 <;> omega
theorem lf1 {a i n m r:Nat} (h:a≤1+i) (h8:i≤m) (hb:fmtOk n (r:Int) (m:Int)):a≤999999:=by unfold fmtOk at hb;omega
theorem lf2 {i k m:Nat} (h:i+k=m) (hi:i<m):i+1+(k - 1)=m∧k - 1<k:=by omega
theorem lf3 {a i:Nat} (h:a≤1+i):a+1≤1+(i+1):=by omega
theorem lf4 {i k m:Nat} (h:i+k=m) (hi:¬i<m):i=m:=by omega
theorem lf5 {n m r:Nat} (hb:fmtOk n (r:Int) (m:Int)):2+r<n∧∀j,j<m→3+r+j<n:=by unfold fmtOk at hb;exact⟨by omega,fun j hj=>by omega⟩
theorem fmt_wrap {n r m i:Nat} (hb:fmtOk n (r:Int) (m:Int)) (hle:n≤4096) (hi:i<m):wrap64 (((3+r:Nat):Int)+(i:Int))=((3+r+i:Nat):Int)∧wrap64 ((i:Int)+1)=((i+1:Nat):Int)∧3+r+i<n:=by
 unfold fmtOk at hb
 refine⟨?_,?_,by omega⟩ <;> unfold wrap64 <;> omega
end Go.Aq.Fy
namespace Go.Proofs.YtlidiclfpklliaaGreatDoor
open Go.RowKit Go.Aq Go.Aq.Fy Go.Maps
theorem Bs_zsec:Bs zsec=List.replicate 256 (.int .u8 0):=by unfold zsec nul Bs;rw[List.map_replicate];rfl
theorem cast3 (r i:Nat):((3+r+i:Nat):Int)=3+(r:Int)+(i:Int):=by rw[Int.natCast_add,Int.natCast_add];rfl
set_option maxRecDepth 100000 in
theorem format_ok (w:World) (S:List Nat) (p:Nat) (D:DiskD) (hD:DiskR w S p D) (hrest:Go.Aq.Fy.Rest D) (hfl:D.falls=0) (r m:Nat) (hb:fmtOk D.n (r:Int) (m:Int)):
  Calls Tryz.prog 42 #[.pointer (some ⟨p,0,none⟩),.int .i64 r,.int .i64 m] w fun e w'=>e=.returned (.int .i64 0)∧∃S' k,DiskR w' S' p { D with writes:=k,now:=fmtG D.now r m,dur:=fmtG D.now r m }∧Upd S S' w w':=by
 have hsec:=sectors_ok w S p D hD
 have hle:D.n≤4096:=by obtain⟨_,_,_,_,_,_,_,hb,_⟩:=hD;exact hb.least.2
 unfold fmtOk at hb
 have hfm:=formatL_ok w S p D r hD hrest.up (by rw[hrest.pend];simp) (by omega) (by omega) (by omega)
 obtain⟨k1,hk1⟩:=writesD_calm [(0,headB r 1 0),(1,zsec)] D hrest hfl (fun q hq=>by
  simp only[List.mem_cons,List.not_mem_nil,or_false] at hq
  rcases hq with rfl | rfl
  ·exact⟨by simp only;omega,headB_length _ _ _⟩
  ·exact⟨by simp only;omega,zsec_len⟩)
 rw[hk1] at hfm
 obtain⟨g1,hg1⟩:∃g1,setAll D.now [(0,headB r 1 0),(1,zsec)]=g1:=⟨_,rfl⟩
 rw[hg1] at hfm
 obtain⟨D1,hD1⟩:∃D1:DiskD,{ D with writes:=k1,now:=g1,dur:=g1 }=D1:=⟨_,rfl⟩
 simp only[hD1] at hfm
 have hD1f:D1.falls=0∧D1.down=false∧D1.n=D.n∧D1.pend=[]:=by rw[←hD1];exact⟨hfl,hrest.up,rfl,hrest.pend⟩
 obtain⟨n,hn⟩:∃n,D.n=n:=⟨_,rfl⟩
 rw[hn] at hsec hb hle
 have hb0:=hb
 have t1:decide ((m:Int)<1)=false:=decide_eq_false (by omega)
 have t2:decide ((200:Int)<(m:Int))=false:=decide_eq_false (by omega)
 have t3:decide ((r:Int)<1)=false:=decide_eq_false (by omega)
 have t4:decide ((n:Int)<(r:Int))=false:=decide_eq_false (by omega)
 have t1':decide (m<1)=false:=decide_eq_false (by omega)
 have t2':decide (200<m)=false:=decide_eq_false (by omega)
 have t3':decide (r<1)=false:=decide_eq_false (by omega)
 have t4':decide (n<r)=false:=decide_eq_false (by omega)
 have htop:=fun w=>top_any w m (by omega)
 obtain⟨x1,x2,x3,x4,e1,e2,e3,e4,t5,e5,e6⟩:=fmt_num (show fmtOk n (r:Int) (m:Int) from hb0) hle
 have e1w:=wIq e1
 have e2w:=wIq e2
 have e3w:=wIq e3
 have e4w:=wIq e4
 have e5w:=wIq e5
 have e6w:=wIq e6
 have HH:=zG hb hle hn hD1 hD1f hg1 hrest (show fmtOk n (r:Int) (m:Int) from hb0)
 clear hb hb0 hle hn hD1 hD1f hg1 hrest hk1 hfl hD
 go_enter Tryz.func42,Tryz.ntmps42
 go_wp2_with fail
 refine hsec.mono ?_
 rintro e w1 ⟨rfl,hw1⟩
 obtain rfl:w=w1:=hw1.symm
 go_wp2_with fail
 refine hsec.mono ?_
 rintro e w1 ⟨rfl,hw1⟩
 obtain rfl:w=w1:=hw1.symm
 clear hsec
 go_wp2_with fail
 refine hfm.mono ?_
 rintro e w1 ⟨rfl,S1,hR1,hU1⟩
 clear hfm t1 t2 t3 t4 t5 e1 e2 e3 e4 e1w e2w e3w e4w t1' t2' t3' t4'
 have H1:=zA hR1 hU1
 clear hR1 hU1
 go_wp2_with fail
 refine (htop _).mono ?_
 rintro e w2 ⟨vt,rfl,hFt⟩
 clear htop
 have hSt:=hFt.sees
 obtain⟨at_,ct,rfl,-⟩:=hFt.shape
 have hb0:=HH.out.2.2.2.2.2.2.2
 have hSec:SecV w2 S1 (.slice at_ 256 ct) (topB m):=⟨hSt,fun k hk hk'=>by
  have h1:=hFt.new k (eyes_own _ k hk)
  have h2:=H1.out.1.lt k hk'
  omega⟩
 have hpn:D1.pend.length≤999999:=by rw[HH.out.2.2.2.2.1.2.2.2];simp
 have hkn:2+r<D1.n:=by rw[HH.out.2.2.2.2.1.2.2.1,HH.out.2.2.1];have:=hb0;unfold fmtOk at this;omega
 have hw1:=write_ok w2 S1 p D1 (2+r) (topB m) (.slice at_ 256 ct) (H1.out.1.chg hFt.chg) HH.out.2.2.2.2.1.2.1 hkn hpn hSec
 rw[put_calm HH.out.2.2.2.2.1.1] at hw1
 have CF:=zH hFt.chg
 clear hSt hFt hSec hpn hkn hb0
 go_wp2_with fail
 refine hw1.mono ?_
 rintro e w3 ⟨rfl,S3,hR3,hU3⟩
 have H3:=zA hR3 ((H1.out.2.nil CF.out).trans hU3)
 clear hw1 hR3 hU3 e5 e5w
 go_wp2_with fail
 go_loopg [9,10,54] m (fun k (v9 v10 v54:Value) wr=>∃(i:Nat) (S':List Nat) (Di:DiskD),v54=.int .i64 i∧Hid (i+k=m∧DiskR wr S' p Di∧Upd S S' w wr∧Di.falls=0∧Di.down=false∧Di.n=D.n∧Di.pend.length≤1+i∧eachD D1 (fmtL r m)=eachD Di ((fmtL r m).drop (i+1))))
 case atStart=>
  refine⟨0,S3,_,rfl,Nat.zero_add _,H3.out.1,H3.out.2,HH.out.2.2.2.2.1.1,HH.out.2.2.2.2.1.2.1,HH.out.2.2.2.2.1.2.2.1,by simp only[List.length_append,HH.out.2.2.2.2.1.2.2.2];simp,?_⟩
  show eachD D1 ((2+r,topB m)::_)=_
  have hkn:2+r<D1.n:=by rw[HH.out.2.2.2.2.1.2.2.1,HH.out.2.2.1];have:=HH.out.2.2.2.2.2.2.2;unfold fmtOk at this;omega
  have e:writeD D1 (2+r) (topB m)=putD D1 (2+r) (topB m):=writeD_good HH.out.2.2.2.2.1.2.1 (p:=(2+r,topB m)) ⟨hkn,topB_len m⟩
  simp only[eachD,e,put_calm HH.out.2.2.2.2.1.1,if_true]
  rfl
 case round=>
  obtain⟨i,S',Di,rfl,HI⟩:=hrel
  by_cases hi:i<m
  ·have t0:decide ((i:Int)<(m:Int))=true:=by simp;omega
   have t0':decide (i<m)=true:=by simp;omega
   obtain⟨e7,e8,hn7⟩:=fmt_wrap HH.out.2.2.2.2.2.2.2 HH.out.2.1 hi
   have e7':wrap64 (3+(r:Int)+(i:Int))=3+(r:Int)+(i:Int):=by
    have:=e7
    simpa using this
   have e7w:=wIq e7'
   have e8w:=wIq e8
   have HI2:=zA hi hn7
   clear e7 hn7 hi
   go_wp2_with (at_make;refine wpList_mk rfl _ _ 36 rfl sl_u8y rfl .i64 .i64 256 rfl rfl rfl rfl (by decide) (by decide) ?_;intro w4 h1 h2 h3)
   obtain⟨hik,hR,hU,hfl,hdn,hDn,hpn,hea⟩:=HI.out
   have hSec:SecV w4 S' (.slice (some ⟨wr.heap.size,0,none⟩) 256 256) zsec:=⟨by rw[Bs_zsec];exact h1.sees,fun k hk hk'=>by
    have h4:=hR.lt k hk'
    have h5:k=wr.heap.size:=by simpa[eyes] using hk
    omega⟩
   have hb0:=HH.out.2.2.2.2.2.2.2
   have hpn':Di.pend.length≤999999:=lf1 hpn (Nat.le_of_lt HI2.out.1) hb0
   have hkn:3+r+i<Di.n:=by rw[hDn,HH.out.2.2.1];exact HI2.out.2
   have hwr:=write_ok w4 S' p Di (3+r+i) zsec _ (hR.chg h2) hdn hkn hpn' hSec
   rw[put_calm hfl,cast3] at hwr
   have e:writeD Di (3+r+i) zsec=putD Di (3+r+i) zsec:=writeD_good hdn (p:=(3+r+i,zsec)) ⟨hkn,zsec_len⟩
   have hdr:(fmtL r m).drop (i+1)=(3+r+i,zsec)::(fmtL r m).drop (i+1+1):=by
    have hl:i+1<(fmtL r m).length:=by have:=HI2.out.1;simp[fmtL];omega
    rw[List.drop_eq_getElem_cons hl]
    congr 1
    simp[fmtL]
   have hst:eachD Di ((fmtL r m).drop (i+1))=eachD { Di with writes:=wrap64 (Di.writes+1),pend:=Di.pend++[(3+r+i,zsec)],now:=setS Di.now (3+r+i) zsec } ((fmtL r m).drop (i+1+1)):=by
    rw[hdr]
    simp only[eachD,e,put_calm hfl,if_true]
   have HJ:=zG (lf2 hik HI2.out.1) (hU.nil h2) hfl hdn hDn hpn hst hea
   clear hik hR hU hdn hDn hpn hea h1 h2 h3 hSec hb0 hpn' hkn e hdr hst hfl HI
   go_wp2_with fail
   refine hwr.mono ?_
   rintro e w5 ⟨rfl,S5,hR5,hU5⟩
   have H5:=zA hR5 hU5
   clear hwr hR5 hU5
   go_wp2_with fail
   go_roundg (gk - 1)
   case measure=>exact HJ.out.1.2
   case rel=>
    obtain⟨q1,q2,q3,q4,q5,q6,q7,q8⟩:=HJ.out
    exact⟨i+1,S5,_,by simp,q1.1,H5.out.1,q2.trans H5.out.2,q3,q4,q5,by simp only[List.length_append,List.length_cons,List.length_nil];exact lf3 q6,by rw[q8,q7]⟩
  ·have t0:decide ((i:Int)<(m:Int))=false:=by simp;omega
   have t0':decide (i<m)=false:=by simp;omega
   obtain⟨hik,hR,hU,hfl,hdn,hDn,hpn,hea⟩:=HI.out
   have him:i=m:=lf4 hik hi
   have hdz:(fmtL r m).drop (i+1)=[]:=List.drop_eq_nil_of_le (by rw[him];simp[fmtL])
   rw[hdz] at hea
   have hok:OkP D1.n (fmtL r m):=fun q hq=>by
    have hb0:=HH.out.2.2.2.2.2.2.2
    obtain⟨l1,l2⟩:=lf5 hb0
    rw[HH.out.2.2.2.2.1.2.2.1,HH.out.2.2.1]
    unfold fmtL at hq
    rcases List.mem_cons.1 hq with rfl | hq
    ·exact⟨l1,topB_len m⟩
    ·obtain⟨j,hj,rfl⟩:=List.mem_map.1 hq
     have hj':=List.mem_range.1 hj
     exact⟨l2 j hj',zsec_len⟩
   obtain⟨k2,hk2⟩:=eachD_calm (fmtL r m) D1 HH.out.2.2.2.2.1.2.1 HH.out.2.2.2.2.1.1 hok
   have hDi:Di={ D1 with writes:=k2,pend:=D1.pend++fmtL r m,now:=setAll D1.now (fmtL r m) }:=by
    rw[hk2] at hea
    have:=congrArg Prod.fst hea
    exact this.symm
   have hflu:=flush_ok wr S' p Di hR hdn (Nat.le_trans (lf1 hpn (Nat.le_of_eq him) HH.out.2.2.2.2.2.2.2) (by decide))
   have hfd:(flushD Di).1={ D with writes:=k2,now:=fmtG D.now r m,dur:=fmtG D.now r m }:=by
    unfold flushD
    rw[hdn]
    simp only[Bool.false_eq_true,if_false]
    rw[hDi,←HH.out.2.2.2.1]
    simp only[HH.out.2.2.2.2.2.2.1.pend,HH.out.2.2.2.2.2.2.1.up,List.nil_append,fmtG,HH.out.2.2.2.2.2.1]
   rw[hfd] at hflu
   have HZ:=zH hU
   clear hik hR hU hfl hdn hDn hpn hea him hdz hok hk2 hDi hfd hi HI
   go_wp2_with fail
   refine hflu.mono ?_
   rintro e w5 ⟨rfl,S5,hR5,hU5⟩
   go_wp2_with fail
   go_ret
   exact⟨rfl,S5,k2,hR5,HZ.out.trans hU5⟩
end Go.Proofs.YtlidiclfpklliaaGreatDoor
namespace Go.Aq.Fy
open Go.Aq Go.RowKit
def fmtD (n r m:Nat) (k:Int):DiskD:={ newD n with writes:=k,now:=fmtG (fun _=>zsec) r m,dur:=fmtG (fun _=>zsec) r m }
def F0 (n r m:Nat) (k:Int):FsD:=⟨fmtD n r m k,⟨r,1,0⟩,m,[]⟩
theorem fmtG_eq (f:Nat→Sec) (r m:Nat):fmtG f r m=setAll f ([(0,headB r 1 0),(1,zsec)]++fmtL r m):=by unfold fmtG;rw[setAll_app]
theorem fmt_mem {r m:Nat} {p:Nat×Sec}:p∈[(0,headB r 1 0),(1,zsec)]++fmtL r m↔p=(0,headB r 1 0)∨p=(1,zsec)∨p=(2+r,topB m)∨∃i,i<m∧p=(3+r+i,zsec):=by
 unfold fmtL
 simp only[List.mem_append,List.mem_cons,List.not_mem_nil,or_false,List.mem_map,List.mem_range]
 constructor
 ·rintro ((h | h) | h | ⟨i,h1,h2⟩)
  ·exact .inl h
  ·exact .inr (.inl h)
  ·exact .inr (.inr (.inl h))
  ·exact .inr (.inr (.inr ⟨i,h1,h2.symm⟩))
 ·rintro (h | h | h | ⟨i,h1,h2⟩)
  ·exact .inl (.inl h)
  ·exact .inl (.inr h)
  ·exact .inr (.inl h)
  ·exact .inr (.inr ⟨i,h1,h2.symm⟩)
theorem fmt_get {f:Nat→Sec} {r m j:Nat} {b:Sec} (hm:(j,b)∈[(0,headB r 1 0),(1,zsec)]++fmtL r m):fmtG f r m j=b:=by
 rw[fmtG_eq]
 refine setAll_in ⟨_,hm,rfl⟩ fun p hp e=>?_
 rcases fmt_mem.1 hm with h | h | h | ⟨i,h1,h⟩ <;> rcases fmt_mem.1 hp with h' | h' | h' | ⟨i',h1',h'⟩ <;> (subst h';cases h) <;> simp only at e ⊢ <;> first | rfl | omega
theorem fmt_ok {n r m:Nat} (hb:fmtOk n (r:Int) (m:Int)):OkP n ([(0,headB r 1 0),(1,zsec)]++fmtL r m):=fun p hp=>by
 unfold fmtOk at hb
 rcases fmt_mem.1 hp with rfl | rfl | rfl | ⟨i,h1,rfl⟩
 ·exact⟨by simp only;omega,headB_length _ _ _⟩
 ·exact⟨by simp only;omega,zsec_len⟩
 ·exact⟨by simp only;omega,topB_len _⟩
 ·exact⟨by simp only;omega,zsec_len⟩
theorem nul_app (a b:Nat):nul a++nul b=nul (a+b):=by unfold nul;rw[List.replicate_append_replicate]
theorem pieceT_nil {m i:Nat} (hi:i<m):pieceT m [] i=zsec:=by
 have e:tableB []=nul 2:=by unfold tableB;decide
 unfold pieceT
 rw[e,nul_app,show (nul 2).length=2 from rfl,show 2+(m * 256 - 2)=m * 256 by omega]
 unfold zsec nul
 rw[List.drop_replicate,List.take_replicate]
 congr 1
 omega
theorem zsec_mark (s p n:Nat):zsec≠markB s p n:=fun e=>by
 have:=congrArg (fun l:Sec=>l.take 1) e
 have h2:(markB s p n).take 1=[65]:=by unfold markB;rw[fill_take 1 (by simp)];rfl
 have h1:zsec.take 1=[0]:=by decide
 have h3:zsec.take 1=(markB s p n).take 1:=this
 rw[h1,h2] at h3
 exact absurd h3 (by decide)
theorem fmt_inv {n r m:Nat} (hb:fmtOk n (r:Int) (m:Int)) (hn:n≤4096) (k:Int):FInv 1 (F0 n r m k):=by
 have hb':=hb
 unfold fmtOk at hb'
 have ht:(tableB []).length=2:=by decide
 have hu:∀j b,(j,b)∈[(0,headB r 1 0),(1,zsec)]++fmtL r m→(F0 n r m k).disk.now j=b:=fun j b h=>fmt_get h
 refine⟨⟨hn,?_,?_,?_,?_⟩,⟨rfl,rfl,rfl,fun j=>?_⟩,Nat.le_refl _,⟨?_,?_,fun i hi=>?_⟩,fun j _ e=>?_,?_,FilesOk.nil _⟩
 ·show 0<r;omega
 ·show 0<r;omega
 ·show 1≤m∧m≤200;omega
 ·show 2+r+1+m<n;omega
 ·show (fmtG (fun _=>zsec) r m j).length=256
  rw[fmtG_eq]
  exact setAll_len (fun _=>zsec_len) (fmt_ok hb) j
 ·exact hu 0 _ (fmt_mem.2 (.inl rfl))
 ·exact hu (2+r) _ (fmt_mem.2 (.inr (.inr (.inl rfl))))
 ·replace hi:i<m:=hi
  have h1:(F0 n r m k).disk.now (2+r+1+i)=zsec:=hu _ _ (fmt_mem.2 (.inr (.inr (.inr ⟨i,hi,by rw[show 2+r+1+i=3+r+i by omega]⟩))))
  show (F0 n r m k).disk.now (2+r+1+i)=(sectorsB m []).getD i []
  rw[h1,sectors_get (m:=m) (fs:=[]) (by rw[ht];omega) hi,pieceT_nil hi]
 ·have h1:(F0 n r m k).disk.now 1=zsec:=hu 1 _ (fmt_mem.2 (.inr (.inl rfl)))
  rw[h1] at e
  exact zsec_mark _ _ _ e
 ·show (tableB []).length≤m * 256
  rw[ht];omega
theorem open_same {q:Nat} {F:FsD} (h:FInv q F) (hq:q<2^47):headOf (F.disk.now 0)=F.log∧F.disk.now 0=headB F.log.ring F.log.seq F.log.pos∧(1≤F.log.ring∧F.log.ring+4≤F.disk.n∧F.log.pos<F.log.ring∧F.log.seq<281474976710655)∧markedN F.disk F.log=0∧runP F.disk (redoP F.disk F.log)=(F.disk,0):=by
 have g:=h.geo
 have g1:=g.n
 have g2:=g.mt
 have g3:=g.first
 have g4:=g.ring
 have g5:=g.pos
 have g6:=h.seq
 unfold homeL at g3
 have hm:=unmarked_n h.un
 have hr:redoP F.disk F.log=[]:=by unfold redoP;simp only[hm,if_true]
 refine⟨?_,h.lies.head,⟨by omega,by omega,g5,by omega⟩,hm,by rw[hr];rfl⟩
 rw[h.lies.head]
 exact head_of (by omega) (by omega) (by omega)
structure Tw (F G:FsD):Prop where
 n:F.disk.n=G.disk.n
 now:F.disk.now=G.disk.now
 log:F.log=G.log
 mt:F.mt=G.mt
 files:F.files=G.files
theorem Tw.symm {F G:FsD} (h:Tw F G):Tw G F:=⟨h.n.symm,h.now.symm,h.log.symm,h.mt.symm,h.files.symm⟩
theorem Tw.trans {F G H:FsD} (h:Tw F G) (k:Tw G H):Tw F H:=⟨h.n.trans k.n,h.now.trans k.now,h.log.trans k.log,h.mt.trans k.mt,h.files.trans k.files⟩
theorem Tw.first {F G:FsD} (h:Tw F G):firstF F=firstF G:=by unfold firstF;rw[h.log,h.mt]
theorem Tw.bytes {F G:FsD} (h:Tw F G):bytesB F=bytesB G:=by
 funext x
 unfold bytesB
 rw[h.first,h.now]
theorem Tw.view {F G:FsD} (h:Tw F G):viewF F=viewF G:=by unfold viewF;rw[h.first,h.now,h.files]
theorem Tw.one {F G:FsD} (h:Tw F G) (w:WorkD) (c:ChangeD):oneW F w c=oneW G w c:=by
 have:bytesW F w c.name=bytesW G w c.name:=by unfold bytesW;rw[h.bytes]
 unfold oneW
 rw[this]
theorem Tw.allW {F G:FsD} (h:Tw F G):∀(l:List ChangeD) (w:WorkD),allW F w l=allW G w l
 | [],w=>rfl
 | c::l,w=>by
  unfold Go.Aq.Fy.allW
  rw[h.one w c,h.allW l]
theorem Tw.free {F G:FsD} (h:Tw F G):freeF F=freeF G:=by unfold freeF allF;rw[h.first,h.n,h.files]
theorem Tw.prep {F G:FsD} (h:Tw F G) (l:List ChangeD):prepF F l=prepF G l:=by
 unfold prepF
 simp only[h.allW l,h.free,h.files,h.mt,h.log,h.first]
theorem do_calm {q:Nat} {F:FsD} (h:FInv q F) (hf:F.disk.falls=0) (l:List ChangeD):
  (∃e,e≠0∧prepF F l=(e,[],[],F.log)∧doF F l=(F,e))∨
  ∃st fs lg k,prepF F l=(0,st,fs,lg)∧doF F l=(⟨{ F.disk with writes:=k,now:=setAll F.disk.now st.flatten,dur:=setAll F.disk.now st.flatten },lg,F.mt,fs⟩,0):=by
 rcases prep_plan h l with ⟨e,h1,h2,h3⟩ | ⟨h1,bl,fs,h2,h3,h4,h5⟩
 ·left
  refine⟨e,h2,h1,?_⟩
  unfold doF
  simp only[h1]
  rw[if_pos h2]
 ·right
  obtain⟨k,hk⟩:=runP_calm _ _ h.rest hf (h3.stagesOk h)
  refine⟨_,_,_,k,h2,?_⟩
  unfold doF
  simp only[h2]
  rw[if_neg (by simp),hk]
  simp only[if_true]
theorem Tw.doF {q q':Nat} {F G:FsD} (h:Tw F G) (hF:FInv q F) (hG:FInv q' G) (hf:F.disk.falls=0) (hg:G.disk.falls=0) (l:List ChangeD):Tw (doF F l).1 (doF G l).1∧(doF F l).2=(doF G l).2:=by
 have hp:=h.prep l
 rcases do_calm hF hf l with ⟨e,e0,e1,e2⟩ | ⟨st,fs,lg,k,e1,e2⟩ <;> rcases do_calm hG hg l with ⟨e',e0',e1',e2'⟩ | ⟨st',fs',lg',k',e1',e2'⟩ <;> rw[e1,e1'] at hp <;> rw[e2,e2']
 ·simp only[Prod.mk.injEq] at hp
  exact⟨h,hp.1⟩
 ·simp only[Prod.mk.injEq] at hp
  exact absurd hp.1 e0
 ·simp only[Prod.mk.injEq] at hp
  exact absurd hp.1.symm e0'
 ·simp only[Prod.mk.injEq] at hp
  obtain⟨-,rfl,rfl,rfl⟩:=hp
  exact⟨⟨h.n,by simp only[h.now],rfl,h.mt,rfl⟩,rfl⟩
theorem do_law {q:Nat} {F:FsD} (h:FInv q F) (hq:q<2^47) (hf:F.disk.falls=0) (l:List ChangeD):
  FInv (q+1) (doF F l).1∧(doF F l).1.disk.falls=0∧(doF F l).1.disk.n=F.disk.n∧(doF F l).1.mt=F.mt∧(doF F l).1.log.ring=F.log.ring∧
  (((doF F l).2≠0∧(doF F l).1=F∧((doF F l).2=(allV (viewF F) l).2∨((allV (viewF F) l).2=0∧((doF F l).2=8∨(doF F l).2=9))))∨
   ((doF F l).2=0∧(allV (viewF F) l).2=0∧viewF (doF F l).1=(allV (viewF F) l).1∧∀s,lookK s (allW F ⟨F.files,[]⟩ l).1.fresh=none→lookK s (doF F l).1.files=lookK s (allW F ⟨F.files,[]⟩ l).1.files)):=by
 rcases do_any h hq l with ⟨e,h1,h2,h3⟩ | ⟨h1,bl,fs,hp,h4,h5,h6 | ⟨D,-,-,-,-,-,-,h7,-⟩⟩
 ·rw[h1]
  exact⟨h.more,hf,rfl,rfl,rfl,.inl ⟨h2,rfl,h3⟩⟩
 ·obtain⟨D,h6,hn,hr,hN,hfa⟩:=h6
  rw[h6]
  have hlr:(logF F fs).ring=F.log.ring:=by unfold logF;split <;> rfl
  refine⟨new_inv h hp hn hr hN,hfa hf,hn,rfl,hlr,.inr ⟨rfl,h1,?_,h4⟩⟩
  show viewG (firstF ⟨D,logF F fs,F.mt,fs⟩) D.now fs=_
  rw[logF_first]
  exact h5 _ hN.2.2.1 hN.2.2.2
 ·exact absurd hf h7
def dosF (F:FsD) (cs:List (List ChangeD)):FsD:=cs.foldl (fun F c=>(doF F c).1) F
theorem dosF_snoc (F:FsD) (cs:List (List ChangeD)) (c:List ChangeD):dosF F (cs++[c])=(doF (dosF F cs) c).1:=by unfold dosF;rw[List.foldl_append];rfl
end Go.Aq.Fy
namespace Go.Aq
section
structure ShpD where
 w:Int
 h:Int
 c:Int
 d:Int
def shpZ:ShpD:=⟨0,0,0,0⟩
def shpV (s:ShpD):Value:=.agg #[.int .i64 s.w,.int .i64 s.h,.int .i64 s.c,.int .i64 s.d]
def numsB (s:ShpD):Bool:=decide (1≤s.w)&&decide (s.w≤256)&&decide (1≤s.h)&&decide (s.h≤256)&&decide (1≤s.c)&&decide (s.c≤4)&&(s.d==8 || s.d==16)
def rowD (s:ShpD):Int:=if numsB s then s.w * s.c * s.d / 8 else 0
def sizeD (s:ShpD):Int:=if numsB s then rowD s * s.h else 0
def maySh (s:ShpD):Bool:=numsB s&&decide (sizeD s≤16384)
def mayPix (s:ShpD) (n:Nat):Bool:=maySh s&&((n:Int)==sizeD s)
theorem numsB_iff (s:ShpD):numsB s=true↔(1≤s.w∧s.w≤256)∧(1≤s.h∧s.h≤256)∧(1≤s.c∧s.c≤4)∧(s.d=8∨s.d=16):=by
 simp only[numsB,Bool.and_eq_true,Bool.or_eq_true,decide_eq_true_eq,beq_iff_eq]
 omega
theorem row_bound (w c d:Int) (h1:1≤w∧w≤256) (h2:1≤c∧c≤4) (h3:d=8∨d=16):(1≤w * c∧w * c≤1024)∧(8≤w * c * d∧w * c * d≤16384)∧1≤w * c * d / 8∧w * c * d / 8≤2048:=by
 have e1:1≤w * c∧w * c≤1024:=by
  have a1:1 * 1≤w * c:=Int.mul_le_mul h1.1 h2.1 (by decide) (by omega)
  have a2:w * c≤256 * 4:=Int.mul_le_mul h1.2 h2.2 (by omega) (by decide)
  omega
 refine⟨e1,?_⟩
 generalize w * c=m at *
 rcases h3 with rfl | rfl <;> omega
theorem row_size_bound (s:ShpD) (h:numsB s=true):(1≤rowD s∧rowD s≤2048)∧1≤sizeD s∧sizeD s≤524288:=by
 have e1:rowD s=s.w * s.c * s.d / 8:=by unfold rowD;rw[if_pos h]
 have e2:sizeD s=rowD s * s.h:=by unfold sizeD;rw[if_pos h]
 obtain⟨hw,hh,hc,hd⟩:=(numsB_iff s).1 h
 have hb:=(row_bound s.w s.c s.d hw hc hd).2.2
 rw[←e1] at hb
 refine⟨hb,?_⟩
 rw[e2]
 generalize rowD s=r at *
 have a1:1 * 1≤r * s.h:=Int.mul_le_mul hb.1 hh.1 (by decide) (by omega)
 have a2:r * s.h≤2048 * 256:=Int.mul_le_mul hb.2 hh.2 (by omega) (by decide)
 omega
structure ActD where
 kind:Int
 n:Int
 m:Int
 name:List UInt8
 other:List UInt8
 text:List UInt8
 key:Int
 shp:ShpD
 pix:List UInt8
 mask:List UInt8
def actZ:ActD:=⟨0,0,0,[],[],[],0,shpZ,[],[]⟩
instance:Inhabited ActD:=⟨actZ⟩
end
section
open Go.RowKit
section
variable {P:Program} {ops:Array Oper} {C:World→Prop} {Q:Act→Prop} {a:Act} {o:Oper} {rest:List Oper}
theorem wp_fam {X:Type} (F:X→World) {id:Nat} {Q:Exit→Act→World→Prop} {w:World} {l:List Oper} (hm:P.follows .mixedOrders=true) (hB:Region.lexB .any l.toArray=true) (x0:X) (h0:w.drew=F x0)
  (h:wpQuiet P l.toArray (fun w'=>∃x,w'=F x) (fun a'=>∀w',(∃x,w'=F x)→Q .normal a' w') l a):(Code.region id l.toArray true).wp P Q a w:=
 wp_region_quiet (C:=fun w'=>∃x,w'=F x) hm hB ⟨x0,h0⟩ (by simpa using h)
theorem fam (C:World→Prop) (w:World) (h:C w):∃(X:Type) (_:Nonempty X) (F:X→World) (x0:X),w=F x0∧(∀x,C (F x))∧∀w',C w'→∃x,w'=F x:=
 ⟨{w // C w},⟨⟨w,h⟩⟩,Subtype.val,⟨w,h⟩,rfl,fun x=>x.2,fun w' h=>⟨⟨w',h⟩,rfl⟩⟩
theorem fam0 (w:World):∃(X:Type) (_:Nonempty X) (F:X→World) (x0:X),w.drew=F x0∧(∀x,Chg [] w (F x))∧∀w',Chg [] w w'→∃x,w'=F x:=
 fam (fun w'=>Chg [] w w') w.drew (Chg.refl [] w).drew
theorem fam_call {X:Type} {F:X→World} {w:World} (hF:∀x,Chg [] w (F x)) (hX:∀w',Chg [] w w'→∃x,w'=F x) {f:FuncId} {args:Array Value} {x:X} {v:Value}
  (h:Calls P f args (F x) fun e w'=>e=.returned v∧Chg [] (F x) w'):Calls P f args (F x) fun e w'=>e=.returned v∧∃y,w'=F y:=
 h.mono fun _ _ ⟨a,b⟩=>⟨a,hX _ ((hF x).nil b)⟩
end
end
end Go.Aq
