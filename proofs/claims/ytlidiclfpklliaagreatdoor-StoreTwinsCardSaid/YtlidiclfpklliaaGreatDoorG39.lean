/- FzR FgB -/
import Derived.Test.YtlidiclfpklliaaGreatDoorG38
set_option linter.unusedSimpArgs false
set_option linter.unusedVariables false
set_option maxHeartbeats 8000000
namespace Go.Aq.Fy
open Go.Aq Go.RowKit
theorem topB_mt {m:Nat} (h:m<65536):beVal (((topB m).drop 2).take 2)=m:=by
 unfold topB
 rw[fill_part 2 2 (by simp[beB_length])]
 have:([65,70]++beB m 2).drop 2=beB m 2:=rfl
 rw[this,List.take_of_length_le (by rw[beB_length];omega)]
 exact beVal_beB (by omega)
def wholeT (F:FsD):Sec:=tableB F.files++nul (F.mt * 256 - (tableB F.files).length)
theorem wholeT_len {q:Nat} {F:FsD} (h:FInv q F):(wholeT F).length=F.mt * 256:=by
 have:=h.tlen
 unfold wholeT nul
 simp only[List.length_append,List.length_replicate]
 omega
theorem wholeT_piece {q:Nat} {F:FsD} (h:FInv q F) {i:Nat} (hi:i<F.mt):F.disk.now (homeL F.log+1+i)=((wholeT F).drop (256 * i)).take 256∧(wholeT F).take (256 * (i+1))=(wholeT F).take (256 * i)++F.disk.now (homeL F.log+1+i):=by
 have h1:F.disk.now (homeL F.log+1+i)=((wholeT F).drop (256 * i)).take 256:=by
  rw[h.lies.tab i hi,sectors_get h.tlen hi]
  rfl
 refine⟨h1,?_⟩
 rw[h1,Nat.mul_add,Nat.mul_one,List.take_add]
theorem fo_num {q:Nat} {F:FsD} (h:FInv q F) (hq:q<2^47):F.mt<65536∧1≤F.mt∧F.mt≤200∧homeL F.log≤4096∧homeL F.log<F.disk.n∧(∀i,i<F.mt→homeL F.log+1+i<F.disk.n∧wrap64 (((homeL F.log+1:Nat):Int)+(i:Int))=((homeL F.log+1+i:Nat):Int)∧wrap64 ((i:Int)+1)=((i+1:Nat):Int))∧wrap64 ((homeL F.log:Int)+1)=((homeL F.log+1:Nat):Int)∧1≤allF F∧allF F≤4096∧F.log.ring<65536:=by
 have g:=h.geo
 have h1:=g.n
 have h2:=g.mt
 have h3:=g.first
 have h4:F.log.ring+2≤homeL F.log+0:=by unfold homeL;omega
 refine⟨by omega,by omega,by omega,by omega,by omega,fun i hi=>⟨by omega,by unfold wrap64;omega,by unfold wrap64;omega⟩,by unfold wrap64;omega,?_,?_,by omega⟩
 ·unfold allF firstF;omega
 ·unfold allF;omega
theorem small_of {q:Nat} {F:FsD} (h:FInv q F):F.log.ring+4≤F.disk.n∧0<F.log.ring∧F.mt≤200∧firstF F<F.disk.n∧F.disk.n≤4096:=by
 have g:=h.geo
 have h1:=g.n
 have h2:=g.mt
 have h3:=g.first
 have h4:=g.ring
 have h5:homeL F.log=2+F.log.ring:=rfl
 refine⟨by omega,h4,h2.2,?_,h1⟩
 unfold firstF
 exact h3
theorem lf6 {i k m:Nat} (h:i+k=m) (hi:i<m) (hm:m≤200):256 * i+256≤100000∧(i+1+(k - 1)=m∧k - 1<k):=by omega
theorem e7_of {n:Nat} (h:n≤4096):wrap64 ((n:Int)+1)=((n+1:Nat):Int):=by unfold wrap64;omega
theorem lf7 {i:Nat} (h:256 * i+256≤100000):(256 * i+256) * 1≤140737488355328∧256 * i+256≤9223372036854775807:=by omega
theorem lf8 {m:Nat} (h:m≤200):256 * m≤1000000:=by omega
theorem lf9 {i k m:Nat} (h:i+k=m) (hi:¬i<m):i=m:=by omega
end Go.Aq.Fy
namespace Go.Proofs.YtlidiclfpklliaaGreatDoor
open Go.RowKit Go.Aq Go.Aq.Fy Go.Maps
structure FsN (w:World) (Sd:List Nat) (f d l:Nat) (mv:Value) (F:FsD):Prop where
 blk:Blk w f #[.pointer (some ⟨d,0,none⟩),.pointer (some ⟨l,0,none⟩),.int .i64 F.mt,mv] 113
 disk:DiskR w Sd d F.disk
 log:LogR w l d F.log
 small:F.log.ring+4≤F.disk.n∧0<F.log.ring∧F.mt≤200∧firstF F<F.disk.n∧F.disk.n≤4096
theorem FsN.chg0 {w w':World} {Sd:List Nat} {f d l:Nat} {mv:Value} {F:FsD} (h:FsN w Sd f d l mv F) (c:Chg [] w w'):FsN w' Sd f d l mv F:=
 ⟨h.blk.chg0 c,h.disk.chg c,h.log.chg c (by simp),h.small⟩
theorem first_any (w:World) (Sd:List Nat) (f d l:Nat) (mv:Value) (F:FsD) (h:FsN w Sd f d l mv F):
  Calls Tryz.prog 130 #[.pointer (some ⟨f,0,none⟩)] w fun e w'=>e=.returned (.int .i64 (firstF F))∧∃q,w'=w.drewN q:=by
 obtain⟨⟨-,c1,c2,-⟩,-⟩:=Blk.c4b h.blk
 have hs:=h.small
 have hom:=fun q=>home_ok (w.drewN q) l d F.log (h.log.chg ((Chg.refl [] w).drewN q) (by simp)) (by omega)
 have hh:homeL F.log≤4096:=by unfold homeL;omega
 have e1:wrap64 ((homeL F.log:Int)+1)=((homeL F.log+1:Nat):Int):=by unfold wrap64;omega
 have e2:wrap64 (((homeL F.log+1:Nat):Int)+(F.mt:Int))=((firstF F:Nat):Int):=by unfold wrap64 firstF;omega
 generalize firstF F=r at *
 generalize homeL F.log=q at *
 generalize q+1=q1 at *
 have e1w:=wIq e1
 have e2w:=wIq e2
 clear h hs hh
 go_enter Tryz.func130,Tryz.ntmps130
 go_wp2_with fail
 go_quiet ((exact Calls.quiet_of_same (hom _)))
 go_wp2_with fail
 go_ret
 exact⟨ret_int (by first | assumption | rfl),nq,rfl⟩
theorem all_any (w:World) (Sd:List Nat) (f d l:Nat) (mv:Value) (F:FsD) (h:FsN w Sd f d l mv F):
  Calls Tryz.prog 100 #[.pointer (some ⟨f,0,none⟩)] w fun e w'=>e=.returned (.int .i64 (allF F))∧∃q,w'=w.drewN q:=by
 obtain⟨⟨c0,-,-,-⟩,-⟩:=Blk.c4b h.blk
 have hs:=h.small
 have hsec:=sectors_ok w Sd d F.disk h.disk
 have hfi:=first_any w Sd f d l mv F h
 have e1:wrap64 ((F.disk.n:Int) - (firstF F:Int))=((allF F:Nat):Int):=by unfold wrap64 allF;omega
 generalize firstF F=r at *
 generalize allF F=q at *
 generalize F.disk.n=n at *
 have e1w:=wIq e1
 clear h hs
 go_enter Tryz.func100,Tryz.ntmps100
 go_wp2_with fail
 refine hsec.mono ?_
 rintro e w1 ⟨rfl,rfl⟩
 go_wp2_with fail
 refine hfi.mono ?_
 rintro e w1 ⟨rfl,nq,rfl⟩
 go_wp2_with fail
 go_ret
 exact⟨ret_int (by first | assumption | rfl),nq,rfl⟩
def FOpenEnd (w:World) (S:List Nat) (p:Nat) (R:DiskD×Nat) (F:FsD) (e:Ending) (w':World):Prop:=
 (R.2=0∧∃f l bf S',e=.returned (.tuple #[.pointer (some ⟨f,0,none⟩),.int .i64 0])∧FsR w' S' [] f p l bf F∧Upd S (f::l::bf::S') w w')∨
 (R.2≠0∧e=.returned (.tuple #[.pointer none,.int .i64 R.2])∧∃S',DiskR w' S' p R.1∧Upd S S' w w')
set_option maxRecDepth 100000 in
theorem fopen_ok (w:World) (S:List Nat) (p:Nat) (D:DiskD) (L:LogD) (F:FsD) (q:Nat) (hD:DiskR w S p D) (hup:D.down=false) (hpd:D.pend=[]) (hof:headOf (D.now 0)=L) (hb:D.now 0=headB L.ring L.seq L.pos)
  (hr:1≤L.ring∧L.ring+4≤D.n∧L.pos<L.ring∧L.seq<281474976710655) (hlen:∀k,(D.now k).length=256) (hh:∀i,i<markedN D L→atHome D L (readAt D L i)=true)
  (hF:(runP D (redoP D L)).2=0→F.disk=(runP D (redoP D L)).1∧F.log=(if markedN D L=0 then L else nextL L (markedN D L))∧FInv q F) (hq:q<2^47):
  Calls Tryz.prog 43 #[.pointer (some ⟨p,0,none⟩)] w (FOpenEnd w S p (runP D (redoP D L)) F):=by
 have hop:=openL_ok w S p D L hD hup (by rw[hpd];simp) hof hb hr.1 hr.2.1 hr.2.2.1 hr.2.2.2 (fun k _=>hlen k) hh
 obtain⟨RR,hRR⟩:∃RR,runP D (redoP D L)=RR:=⟨_,rfl⟩
 obtain⟨LN,hLN⟩:∃LN,(if markedN D L=0 then L else nextL L (markedN D L))=LN:=⟨_,rfl⟩
 rw[hRR,hLN] at hop hF
 rw[hRR]
 have HF:=zH hF
 clear hD hup hpd hof hb hr hlen hh hF hRR hLN
 go_enter Tryz.func43,Tryz.ntmps43
 go_wp2_with fail
 refine hop.mono ?_
 rintro e w1 (⟨h0,l,d,S1,rfl,hD1,hL1,hl1,hU1⟩ | ⟨hc,rfl,S1,hD1,hU1⟩)
 ·clear hop
  obtain⟨e1,e2,hI⟩:=HF.out h0
  rw[←e1] at hD1
  rw[←e2] at hL1
  obtain⟨n1,n2,n3,n4,n5,n6,n7,n8,n9,n10⟩:=fo_num hI hq
  have hup:=hI.rest.up
  have hrl:=hI.rest.len
  have hho:=home_ok w1 l p F.log hL1 n10
  have hrd:=read_ok w1 S1 p F.disk (homeL F.log) hD1 hup n5
  rw[hI.lies.top] at hrd
  have htop:=fun w'=>top_any w' F.mt n1
  have hreads:=fun w' (c:Chg [] w1 w') i (hi:i<F.mt)=>read_ok w' S1 p F.disk (homeL F.log+1+i) (hD1.chg c) hup (n6 i hi).1
  have hhome:=fun w' (c:Chg [] w1 w')=>home_ok w' l p F.log (hL1.chg c (by simp)) n10
  obtain⟨hm,hhm⟩:∃hm,homeL F.log=hm:=⟨_,rfl⟩
  obtain⟨mt,hmt⟩:∃mt,F.mt=mt:=⟨_,rfl⟩
  have tm:=topB_mt n1
  have HH:=zH (And.intro h0 (And.intro hI (And.intro n6 (And.intro n7 (And.intro n8 (And.intro n9 (And.intro hD1 (And.intro hL1 (And.intro hl1 hU1)))))))))
  rw[hhm] at hho hrd hreads hhome
  rw[hmt] at htop hrd tm hreads
  rw[hhm] at n4
  rw[hmt] at n1 n2 n3
  have E7:=zH (e7_of n4)
  clear h0 e1 e2 hI hup hrl n5 n6 n7 n8 n9 n10 hD1 hL1 hl1 hU1
  go_wp2_with fail
  refine hho.mono ?_
  rintro e w2 ⟨rfl,hw2⟩
  obtain rfl:w1=w2:=hw2.symm
  clear hho
  go_wp2_with fail
  refine hrd.mono ?_
  rintro e w2 ⟨v2,rfl,hF2⟩
  obtain⟨a2,k2,rfl,-⟩:=hF2.shape
  have r1:=readBig_ok w2 (.slice a2 256 k2) 256 2 2 (topB mt) hF2.own.sees (by decide) (by decide) (by decide) (by decide)
  rw[tm] at r1
  have H2:=zH hF2
  clear hrd hF2 tm
  go_wp2_with fail
  refine r1.mono ?_
  rintro e w3 ⟨rfl,hw3⟩
  obtain rfl:w2=w3:=hw3
  clear r1
  go_upto_region 9 with (fail)
  obtain⟨w3,hw3⟩:∃w3,w2.alloc (.cells #[.pointer (some ⟨p,0,none⟩),.pointer (some ⟨l,0,none⟩),.int .i64 mt,.map none] 113)=w3:=⟨_,rfl⟩
  obtain⟨f,hf⟩:∃f,w2.heap.size=f:=⟨_,rfl⟩
  have hb3:Blk w3 f #[.pointer (some ⟨p,0,none⟩),.pointer (some ⟨l,0,none⟩),.int .i64 mt,.map none] 113:=by rw[←hw3,←hf];exact Blk.new _ _ _
  have k3:Chg [] w2 w3:=by rw[←hw3];exact (Chg.refl [] w2).alloc _
  rw[hw3,hf]
  have c13:Chg [] w1 w3:=H2.out.chg.nil k3
  have hN3:FsN w3 S1 f p l (.map none) F:=by
   obtain⟨h0,hI,n6,n7,n8,n9,hD1,hL1,hl1,hU1⟩:=HH.out
   exact⟨by rw[hmt];exact hb3,hD1.chg c13,hL1.chg c13 (by simp),small_of hI⟩
  have hal:=fun w' (c:Chg [] w3 w')=>all_any w' S1 f p l (.map none) F (hN3.chg0 c)
  have ht4:=htop w3
  have h1f:w1.heap.size≤f:=by rw[←hf];exact H2.out.chg.size
  have hs3:=H2.out.own.sees.chg0 k3
  have H3:=zC hN3 c13 h1f (show f<w3.heap.size from hb3.lt)
  have tal:decide ((allF F:Int)<1)=false:=by have:=HH.out.2.2.2.2.1;simp;omega
  have tal':decide (allF F<1)=false:=by have:=HH.out.2.2.2.2.1;simp;omega
  have tm1:decide ((mt:Int)<1)=false:=by simp;omega
  have tm1':decide (mt<1)=false:=by simp;omega
  have tm2:decide ((200:Int)<(mt:Int))=false:=by simp;omega
  have tm2':decide (200<mt)=false:=by simp;omega
  obtain⟨al,hale⟩:∃al,allF F=al:=⟨_,rfl⟩
  rw[hale] at tal tal' hal
  clear hw3 hf hb3 k3 hN3 htop c13 h1f
  go_wp2_with fail
  refine ht4.mono ?_
  rintro e w4 ⟨v4,rfl,hF4⟩
  obtain⟨a4,k4,rfl,-⟩:=hF4.shape
  have heq:=equal_any w4 (.slice a2 256 k2) (.slice a4 256 k4) 256 256 (topB mt) (topB mt) (hs3.chg0 hF4.chg) hF4.sees
  rw[decide_eq_true rfl] at heq
  have ha4:=hal w4 hF4.chg
  have H4:=zH hF4.chg
  clear ht4 hF4 hs3
  go_wp2_with fail
  refine heq.mono ?_
  rintro e w5 ⟨rfl,hw5⟩
  obtain rfl:w5=w4:=hw5
  clear heq
  go_wp2_with fail
  refine ha4.mono ?_
  rintro e w6 ⟨rfl,nq,hw6⟩
  have c46:Chg [] w5 w6:=by rw[hw6];exact (Chg.refl [] w5).drewN nq
  have H6:=zH (H4.out.nil c46)
  clear ha4 hw6 c46
  go_wp2_with fail
  go_loopg [11,12,13,14,65] mt (fun k (v11 v12 v13 v14 v65:Value) wr=>∃(i:Nat),v65=.int .i64 i∧Hid (i+k=mt∧Fresh w6 wr 5 1 v11 (256 * i) (Bs ((wholeT F).take (256 * i)))))
  case atStart=>
   exact⟨0,rfl,Nat.zero_add _,Fresh.nil _ _ _⟩
  case round=>
   obtain⟨i,rfl,HJ⟩:=hrel
   have hF11:=HJ.out.2
   obtain⟨a11,k11,rfl,-⟩:=hF11.shape
   by_cases hi:i<mt
   ·have t0:decide ((i:Int)<(mt:Int))=true:=by simp;omega
    have t0':decide (i<mt)=true:=by simp;omega
    have cr:Chg [] w1 wr:=(H3.out.2.1.nil H6.out).nil hF11.chg
    have hri:=hreads wr cr i hi
    have hhr:=hhome wr cr
    obtain⟨m1,m2,m3⟩:=HH.out.2.2.1 i (by rw[hmt];exact hi)
    obtain⟨hp1,hp2⟩:=wholeT_piece HH.out.2.1 (i:=i) (by rw[hmt];exact hi)
    rw[hhm] at m2 hp1 hp2
    have m2':wrap64 ((hm:Int)+1+(i:Int))=((hm+1+i:Nat):Int):=m2
    have e7:=E7.out
    have e7w:=wIq e7
    have m2w:=wIq m2'
    have m3w:=wIq m3
    have hlf:=lf6 HJ.out.1 hi n3
    have hlf1:=hlf.1
    have HQ:=zA hlf.2 hp2
    clear hi cr m1 hp1 hp2 hlf
    go_wp2_with fail
    refine hhr.mono ?_
    rintro e w7 ⟨rfl,hw7⟩
    obtain rfl:w7=wr:=hw7
    clear hhr
    go_wp2_with fail
    refine hri.mono ?_
    rintro e w8 ⟨v8,rfl,hF8⟩
    obtain⟨a8,k8,rfl,-⟩:=hF8.shape
    clear hri
    have hFa:=hF11.to hF8.chg
    go_wp2_with (first
     | (at_builtin;refine wpList_appF rfl _ _ 36 rfl sl_u8y hFa rfl hF8.own.sees rfl (Bs_one _) (lf7 hlf1).1 (lf7 hlf1).2 ?_;intro v9 w9 hF9 c9)
     | fail)
    have H9:=zH hF9
    clear hFa hF8 hF11 c9 hF9 m2 m2' m2w m3 m3w e7 e7w
    go_roundg (gk - 1)
    case measure=>exact HQ.out.1.2
    case rel=>
     have h9:=H9.out
     have e9:Bs ((wholeT F).take (256 * i))++Bs (F.disk.now (hm+1+i))=Bs ((wholeT F).take (256 * (i+1))):=by rw[HQ.out.2];exact (List.map_append).symm
     rw[e9] at h9
     exact⟨i+1,by simp,HQ.out.1.1,h9⟩
   ·have t0:decide ((i:Int)<(mt:Int))=false:=by simp;omega
    have t0':decide (i<mt)=false:=by simp;omega
    have him:i=mt:=lf9 HJ.out.1 hi
    have cr:Chg [] w3 wr:=H6.out.nil hF11.chg
    have har:=hal wr cr
    have H11:=zB him hF11 cr
    clear him cr hF11 hi
    go_wp2_with fail
    refine har.mono ?_
    rintro e w7 ⟨rfl,nq7,hw7⟩
    have c7:Chg [] wr w7:=by rw[hw7];exact (Chg.refl [] wr).drewN nq7
    obtain⟨him,hF11,cr⟩:=H11.out
    have hI:=HH.out.2.1
    have hwl:=wholeT_len hI
    have hS7:Sees w7 1 (.slice a11 (256 * i) k11) (256 * i) (Bs (tableB F.files++nul (F.mt * 256 - (tableB F.files).length))):=by
     have h1:=hF11.own.sees.chg0 c7
     rw[List.take_of_length_le (by rw[hwl,hmt,him];omega)] at h1
     exact h1
    have hin:In w7 (f::l::S1):=by
     have hN7:=H3.out.1.chg0 (cr.nil c7)
     intro k hk
     simp only[List.mem_cons] at hk
     rcases hk with rfl | rfl | hk
     ·exact hN7.blk.lt
     ·exact Blk.lt hN7.log
     ·exact hN7.disk.lt k hk
    have hpa:=parse_ok w7 (f::l::S1) hin _ (256 * i) _ al F.files (by rw[←hale];exact hI.files) (by rw[←hale];exact HH.out.2.2.2.2.2.1) hS7 (by rw[him];exact lf8 n3)
    have H7:=zA (cr.nil c7) (show w3.heap.size≤w7.heap.size from (cr.nil c7).size)
    clear har hw7 c7 him hF11 cr hI hwl hS7 hin
    go_wp2_with fail
    refine hpa.mono ?_
    rintro e w8 ⟨m,rfl,hM8,hm8,c8⟩
    clear hpa
    have hN8:=H3.out.1.chg0 (H7.out.1.nil c8)
    obtain⟨⟨x0,x1,x2,x3⟩,g0,g1,g2,g3⟩:=Blk.c4b hN8.blk
    have H8:=zC hM8 hm8 c8 hN8
    clear hM8 hm8 c8 hN8
    go_wp2_with fail
    refine bodyPost_ret (results_tmp2 rfl _ _ _) rfl ?_
    obtain⟨hM8,hm8,c8,hN8⟩:=H8.out
    obtain⟨h0,hI,-,-,-,-,hD1,hL1,hl1,hU1⟩:=HH.out
    obtain⟨hN3,c13,h1f,hf3⟩:=H3.out
    have hl1':=Blk.lt hL1
    have hsz7:=H7.out.2
    have cS:Chg [f] w8 (w8.setCell ⟨f,3,none⟩ (.map (some m))):=(Chg.refl _ _).setCell (by simp) _
    have hb9:=hN8.blk.set 3 (.map (some m))
    simp only[List.setIfInBounds_toArray,List.set_cons_zero,List.set_cons_succ] at hb9
    have hfS:f∉S1:=fun hh=>by have:=hD1.lt f hh;omega
    have hfl:f≠l:=by omega
    have hfm:f≠m:=by omega
    have hlm:l≠m:=by omega
    have hmS:m∉S1:=fun hh=>by have h1:=hD1.lt m hh;have:=c13.size;omega
    have c18:Chg [] w1 w8:=(c13.nil H7.out.1).nil c8
    refine .inl ⟨h0,f,l,m,S1,rfl,⟨hb9,hN8.disk.off1 hN8.blk (fun i x=>by rcases i with _ | _ | _ | _ | i <;> simp) cS hfS,hN8.log.chg cS (by simp;exact fun e=>hfl e.symm),?_,⟨hfl,hfm,hlm,hfS,hl1,hmS⟩,fun _ h=>by simp at h,hN8.small⟩,⟨?_,fun k hk=>?_⟩⟩
    ·exact (hM8.chg cS (fun k hk=>.inl (by simp at hk;simp[hk])) (by simp;exact fun e=>hfm e.symm)).wide (fun k hk=>.inl (by simp at hk ⊢;rcases hk with h | h | h | h <;> simp[h]))
    ·exact (hU1.chg.nil c18).trans cS (fun t ht=>.inr (by simp at ht;have:=hU1.chg.size;omega))
    ·have hwz:=hU1.chg.size
     simp only[List.mem_cons] at hk
     rcases hk with rfl | rfl | rfl | hk
     ·exact .inr (by omega)
     ·exact hU1.new _ (by simp)
     ·exact .inr (by have:=c13.size;omega)
     ·exact hU1.new _ (by simp[hk])
 ·have t1:((RR.2:Int)==0)=false:=by simp;omega
  have t1':(RR.2==0)=false:=by simp;omega
  have H1:=zB hc hD1 hU1
  clear hc hD1 hU1 hop
  go_wp2_with fail
  refine bodyPost_ret (results_tmp2 rfl _ _ _) rfl ?_
  exact .inr ⟨H1.out.1,rfl,S1,H1.out.2.1,H1.out.2.2⟩
end Go.Proofs.YtlidiclfpklliaaGreatDoor
namespace Go.Aq
open Go.RowKit
end Go.Aq
namespace Go.Aq.Fy
open Go.Aq Go.RowKit
theorem flat_len {g:Nat→Sec} (h:∀k,(g k).length=256):∀ks:List Nat,(ks.flatMap g).length=256 * ks.length
 | []=>rfl
 | k::ks=>by rw[List.flatMap_cons,List.length_append,h,flat_len h ks,List.length_cons];omega
theorem bytesB_len {q:Nat} {F:FsD} (h:FInv q F) {s:Nm} {x:FileD} (hx:(s,x)∈F.files):(bytesB F x).length=x.size:=by
 obtain⟨-,h2⟩:=h.files.size _ hx
 simp only at h2
 unfold bytesB
 rw[List.length_take,flat_len (g:=fun k=>F.disk.now (firstF F+k)) (fun k=>h.rest.len _),h2]
 unfold cnt
 omega
theorem viewF_names (F:FsD):(viewF F).map (·.1)=F.files.map (·.1):=by unfold viewF viewG;exact mapK_keys _ _
theorem FInv.at {q:Nat} {F:FsD} (h:FInv q F) {s:Nm} {x:FileD} (hx:(s,x)∈F.files):s.length≤1048576∧lookK s F.files=some x∧x.size≤256 * x.blocks.length∧x.blocks.length≤4096∧(∀k∈x.blocks,k<allF F)∧(bytesB F x).length=x.size∧x.size≤65535:=by
 obtain⟨h1,h2⟩:=h.files.size _ hx
 simp only at h1 h2
 have h3:=nameOk_len (h.files.name _ hx)
 refine⟨Nat.le_trans h3 (by decide),look_of_mem h.files.asc hx,?_,?_,fun k hk=>h.files.bound k (List.mem_flatMap.2 ⟨_,hx,hk⟩),bytesB_len h hx,h1⟩
 ·rw[h2];unfold cnt;omega
 ·rw[h2];unfold cnt;omega
end Go.Aq.Fy
namespace Go.Proofs.YtlidiclfpklliaaGreatDoor
open Go.RowKit Go.Aq Go.Aq.Fy Go.Maps
def RowsN (w:World) (B:Nat) (ys:List Value) (L:List Sec):Prop:=ys.length=L.length∧∀(i:Nat) (b:Sec),L[i]?=some b→∃y,ys[i]?=some y∧Sees w 1 y b.length (Bs b)∧∀k∈eyes y,B≤k∧k<w.heap.size
theorem RowsN.push {w:World} {B:Nat} {ys:List Value} {L:List Sec} (h:RowsN w B ys L) {y:Value} {b:Sec} (hy:Sees w 1 y b.length (Bs b)) (hn:∀k∈eyes y,B≤k):RowsN w B (ys++[y]) (L++[b]):=by
 refine⟨by simp[h.1],fun i c hc=>?_⟩
 rw[List.getElem?_append] at hc ⊢
 rw[h.1]
 split at hc
 ·rename_i hi
  rw[if_pos hi]
  exact h.2 i c hc
 ·rename_i hi
  rw[if_neg hi]
  have:i - L.length=0:=by
   have:=(List.getElem?_eq_some_iff.1 hc).1
   simp at this
   omega
  rw[this] at hc ⊢
  simp only[List.getElem?_cons_zero,Option.some.injEq] at hc
  subst hc
  exact⟨y,rfl,hy,fun k hk=>⟨hn k hk,hy.lt (by decide) k hk⟩⟩
theorem RowsN.chg {w w':World} {B:Nat} {ys:List Value} {L:List Sec} {T:List Nat} (h:RowsN w B ys L) (c:Chg T w w') (hT:∀(y:Value),y∈ys→Disj (eyes y) T):RowsN w' B ys L:=by
 refine⟨h.1,fun i b hb=>?_⟩
 obtain⟨y,e,hs,hn⟩:=h.2 i b hb
 exact⟨y,e,hs.chg c (hT y (List.mem_of_getElem? e)),fun k hk=>⟨(hn k hk).1,Nat.lt_of_lt_of_le (hn k hk).2 c.size⟩⟩
theorem RowsN.mem {w:World} {B:Nat} {ys:List Value} {L:List Sec} (h:RowsN w B ys L) {y:Value} (hy:y∈ys):∀k∈eyes y,B≤k∧k<w.heap.size:=by
 obtain⟨i,hi,rfl⟩:=List.getElem_of_mem hy
 obtain⟨y',e,-,h3⟩:=h.2 i (L[i]'(by rw[←h.1];exact hi)) (List.getElem?_eq_getElem _)
 rw[List.getElem?_eq_getElem hi] at e
 cases e
 exact h3
end Go.Proofs.YtlidiclfpklliaaGreatDoor
