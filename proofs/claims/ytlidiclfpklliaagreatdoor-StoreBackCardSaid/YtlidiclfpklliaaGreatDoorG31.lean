/- FzR FgB FzL -/
import Derived.Test.YtlidiclfpklliaaGreatDoorG30
set_option linter.unusedSimpArgs false
set_option linter.unusedVariables false
set_option maxHeartbeats 8000000
namespace Go.Aq.Fy
open Go.Aq Go.RowKit
theorem topB_mt {m:Nat} (h:m<65536):beVal (((topB m).drop 2).take 2)=m:=by
 unfold topB
 rw[fill_part 2 2 (by simp[beB_length])]
 have:([65,70]++beB m 2).drop 2=beB m 2:=rfl
 rw[this,List.take_of_length_le (by rw[beB_length];omega)]
 exact beVal_beB (by omega)
def wholeT (F:FsD):Sec:=tableB F.files++nul (F.mt * 256 - (tableB F.files).length)
theorem wholeT_len {q:Nat} {F:FsD} (h:FInv q F):(wholeT F).length=F.mt * 256:=by
 have:=h.tlen
 unfold wholeT nul
 simp only[List.length_append,List.length_replicate]
 omega
theorem wholeT_piece {q:Nat} {F:FsD} (h:FInv q F) {i:Nat} (hi:i<F.mt):F.disk.now (homeL F.log+1+i)=((wholeT F).drop (256 * i)).take 256∧(wholeT F).take (256 * (i+1))=(wholeT F).take (256 * i)++F.disk.now (homeL F.log+1+i):=by
 have h1:F.disk.now (homeL F.log+1+i)=((wholeT F).drop (256 * i)).take 256:=by
  rw[h.lies.tab i hi,sectors_get h.tlen hi]
  rfl
 refine⟨h1,?_⟩
 rw[h1,Nat.mul_add,Nat.mul_one,List.take_add]
theorem fo_num {q:Nat} {F:FsD} (h:FInv q F) (hq:q<2^47):F.mt<65536∧1≤F.mt∧F.mt≤200∧homeL F.log≤4096∧homeL F.log<F.disk.n∧(∀i,i<F.mt→homeL F.log+1+i<F.disk.n∧wrap64 (((homeL F.log+1:Nat):Int)+(i:Int))=((homeL F.log+1+i:Nat):Int)∧wrap64 ((i:Int)+1)=((i+1:Nat):Int))∧wrap64 ((homeL F.log:Int)+1)=((homeL F.log+1:Nat):Int)∧1≤allF F∧allF F≤4096∧F.log.ring<65536:=by
 have g:=h.geo
 have h1:=g.n
 have h2:=g.mt
 have h3:=g.first
 have h4:F.log.ring+2≤homeL F.log+0:=by unfold homeL;omega
 refine⟨by omega,by omega,by omega,by omega,by omega,fun i hi=>⟨by omega,by unfold wrap64;omega,by unfold wrap64;omega⟩,by unfold wrap64;omega,?_,?_,by omega⟩
 ·unfold allF firstF;omega
 ·unfold allF;omega
theorem small_of {q:Nat} {F:FsD} (h:FInv q F):F.log.ring+4≤F.disk.n∧0<F.log.ring∧F.mt≤200∧firstF F<F.disk.n∧F.disk.n≤4096:=by
 have g:=h.geo
 have h1:=g.n
 have h2:=g.mt
 have h3:=g.first
 have h4:=g.ring
 have h5:homeL F.log=2+F.log.ring:=rfl
 refine⟨by omega,h4,h2.2,?_,h1⟩
 unfold firstF
 exact h3
theorem lf6 {i k m:Nat} (h:i+k=m) (hi:i<m) (hm:m≤200):256 * i+256≤100000∧(i+1+(k - 1)=m∧k - 1<k):=by omega
theorem e7_of {n:Nat} (h:n≤4096):wrap64 ((n:Int)+1)=((n+1:Nat):Int):=by unfold wrap64;omega
theorem lf7 {i:Nat} (h:256 * i+256≤100000):(256 * i+256) * 1≤140737488355328∧256 * i+256≤9223372036854775807:=by omega
theorem lf8 {m:Nat} (h:m≤200):256 * m≤1000000:=by omega
theorem lf9 {i k m:Nat} (h:i+k=m) (hi:¬i<m):i=m:=by omega
end Go.Aq.Fy
namespace Go.Proofs.YtlidiclfpklliaaGreatDoor
open Go.RowKit Go.Aq Go.Aq.Fy Go.Maps
structure FsN (w:World) (Sd:List Nat) (f d l:Nat) (mv:Value) (F:FsD):Prop where
 blk:Blk w f #[.pointer (some ⟨d,0,none⟩),.pointer (some ⟨l,0,none⟩),.int .i64 F.mt,mv] 113
 disk:DiskR w Sd d F.disk
 log:LogR w l d F.log
 small:F.log.ring+4≤F.disk.n∧0<F.log.ring∧F.mt≤200∧firstF F<F.disk.n∧F.disk.n≤4096
theorem FsN.chg0 {w w':World} {Sd:List Nat} {f d l:Nat} {mv:Value} {F:FsD} (h:FsN w Sd f d l mv F) (c:Chg [] w w'):FsN w' Sd f d l mv F:=
 ⟨h.blk.chg0 c,h.disk.chg c,h.log.chg c (by simp),h.small⟩
theorem first_any (w:World) (Sd:List Nat) (f d l:Nat) (mv:Value) (F:FsD) (h:FsN w Sd f d l mv F):
  Calls Tryz.prog 130 #[.pointer (some ⟨f,0,none⟩)] w fun e w'=>e=.returned (.int .i64 (firstF F))∧∃q,w'=w.drewN q:=by
 obtain⟨⟨-,c1,c2,-⟩,-⟩:=Blk.c4b h.blk
 have hs:=h.small
 have hom:=fun q=>home_ok (w.drewN q) l d F.log (h.log.chg ((Chg.refl [] w).drewN q) (by simp)) (by omega)
 have hh:homeL F.log≤4096:=by unfold homeL;omega
 have e1:wrap64 ((homeL F.log:Int)+1)=((homeL F.log+1:Nat):Int):=by unfold wrap64;omega
 have e2:wrap64 (((homeL F.log+1:Nat):Int)+(F.mt:Int))=((firstF F:Nat):Int):=by unfold wrap64 firstF;omega
 generalize firstF F=r at *
 generalize homeL F.log=q at *
 generalize q+1=q1 at *
 have e1w:=wIq e1
 have e2w:=wIq e2
 clear h hs hh
 go_enter Tryz.func130,Tryz.ntmps130
 go_wp2_with fail
 go_quiet ((exact Calls.quiet_of_same (hom _)))
 go_wp2_with fail
 go_ret
 exact⟨ret_int (by first | assumption | rfl),nq,rfl⟩
theorem all_any (w:World) (Sd:List Nat) (f d l:Nat) (mv:Value) (F:FsD) (h:FsN w Sd f d l mv F):
  Calls Tryz.prog 100 #[.pointer (some ⟨f,0,none⟩)] w fun e w'=>e=.returned (.int .i64 (allF F))∧∃q,w'=w.drewN q:=by
 obtain⟨⟨c0,-,-,-⟩,-⟩:=Blk.c4b h.blk
 have hs:=h.small
 have hsec:=sectors_ok w Sd d F.disk h.disk
 have hfi:=first_any w Sd f d l mv F h
 have e1:wrap64 ((F.disk.n:Int) - (firstF F:Int))=((allF F:Nat):Int):=by unfold wrap64 allF;omega
 generalize firstF F=r at *
 generalize allF F=q at *
 generalize F.disk.n=n at *
 have e1w:=wIq e1
 clear h hs
 go_enter Tryz.func100,Tryz.ntmps100
 go_wp2_with fail
 refine hsec.mono ?_
 rintro e w1 ⟨rfl,rfl⟩
 go_wp2_with fail
 refine hfi.mono ?_
 rintro e w1 ⟨rfl,nq,rfl⟩
 go_wp2_with fail
 go_ret
 exact⟨ret_int (by first | assumption | rfl),nq,rfl⟩
def FOpenEnd (w:World) (S:List Nat) (p:Nat) (R:DiskD×Nat) (F:FsD) (e:Ending) (w':World):Prop:=
 (R.2=0∧∃f l bf S',e=.returned (.tuple #[.pointer (some ⟨f,0,none⟩),.int .i64 0])∧FsR w' S' [] f p l bf F∧Upd S (f::l::bf::S') w w')∨
 (R.2≠0∧e=.returned (.tuple #[.pointer none,.int .i64 R.2])∧∃S',DiskR w' S' p R.1∧Upd S S' w w')
set_option maxRecDepth 100000 in
theorem fopen_ok (w:World) (S:List Nat) (p:Nat) (D:DiskD) (L:LogD) (F:FsD) (q:Nat) (hD:DiskR w S p D) (hup:D.down=false) (hpd:D.pend=[]) (hof:headOf (D.now 0)=L) (hb:D.now 0=headB L.ring L.seq L.pos)
  (hr:1≤L.ring∧L.ring+4≤D.n∧L.pos<L.ring∧L.seq<281474976710655) (hlen:∀k,(D.now k).length=256) (hh:∀i,i<markedN D L→atHome D L (readAt D L i)=true)
  (hF:(runP D (redoP D L)).2=0→F.disk=(runP D (redoP D L)).1∧F.log=(if markedN D L=0 then L else nextL L (markedN D L))∧FInv q F) (hq:q<2^47):
  Calls Tryz.prog 43 #[.pointer (some ⟨p,0,none⟩)] w (FOpenEnd w S p (runP D (redoP D L)) F):=by
 have hop:=openL_ok w S p D L hD hup (by rw[hpd];simp) hof hb hr.1 hr.2.1 hr.2.2.1 hr.2.2.2 (fun k _=>hlen k) hh
 obtain⟨RR,hRR⟩:∃RR,runP D (redoP D L)=RR:=⟨_,rfl⟩
 obtain⟨LN,hLN⟩:∃LN,(if markedN D L=0 then L else nextL L (markedN D L))=LN:=⟨_,rfl⟩
 rw[hRR,hLN] at hop hF
 rw[hRR]
 have HF:=zH hF
 clear hD hup hpd hof hb hr hlen hh hF hRR hLN
 go_enter Tryz.func43,Tryz.ntmps43
 go_wp2_with fail
 refine hop.mono ?_
 rintro e w1 (⟨h0,l,d,S1,rfl,hD1,hL1,hl1,hU1⟩ | ⟨hc,rfl,S1,hD1,hU1⟩)
 ·clear hop
  obtain⟨e1,e2,hI⟩:=HF.out h0
  rw[←e1] at hD1
  rw[←e2] at hL1
  obtain⟨n1,n2,n3,n4,n5,n6,n7,n8,n9,n10⟩:=fo_num hI hq
  have hup:=hI.rest.up
  have hrl:=hI.rest.len
  have hho:=home_ok w1 l p F.log hL1 n10
  have hrd:=read_ok w1 S1 p F.disk (homeL F.log) hD1 hup n5
  rw[hI.lies.top] at hrd
  have htop:=fun w'=>top_any w' F.mt n1
  have hreads:=fun w' (c:Chg [] w1 w') i (hi:i<F.mt)=>read_ok w' S1 p F.disk (homeL F.log+1+i) (hD1.chg c) hup (n6 i hi).1
  have hhome:=fun w' (c:Chg [] w1 w')=>home_ok w' l p F.log (hL1.chg c (by simp)) n10
  obtain⟨hm,hhm⟩:∃hm,homeL F.log=hm:=⟨_,rfl⟩
  obtain⟨mt,hmt⟩:∃mt,F.mt=mt:=⟨_,rfl⟩
  have tm:=topB_mt n1
  have HH:=zH (And.intro h0 (And.intro hI (And.intro n6 (And.intro n7 (And.intro n8 (And.intro n9 (And.intro hD1 (And.intro hL1 (And.intro hl1 hU1)))))))))
  rw[hhm] at hho hrd hreads hhome
  rw[hmt] at htop hrd tm hreads
  rw[hhm] at n4
  rw[hmt] at n1 n2 n3
  have E7:=zH (e7_of n4)
  clear h0 e1 e2 hI hup hrl n5 n6 n7 n8 n9 n10 hD1 hL1 hl1 hU1
  go_wp2_with fail
  refine hho.mono ?_
  rintro e w2 ⟨rfl,hw2⟩
  obtain rfl:w1=w2:=hw2.symm
  clear hho
  go_wp2_with fail
  refine hrd.mono ?_
  rintro e w2 ⟨v2,rfl,hF2⟩
  obtain⟨a2,k2,rfl,-⟩:=hF2.shape
  have r1:=readBig_ok w2 (.slice a2 256 k2) 256 2 2 (topB mt) hF2.own.sees (by decide) (by decide) (by decide) (by decide)
  rw[tm] at r1
  have H2:=zH hF2
  clear hrd hF2 tm
  go_wp2_with fail
  refine r1.mono ?_
  rintro e w3 ⟨rfl,hw3⟩
  obtain rfl:w2=w3:=hw3
  clear r1
  go_upto_region 9 with (fail)
  obtain⟨w3,hw3⟩:∃w3,w2.alloc (.cells #[.pointer (some ⟨p,0,none⟩),.pointer (some ⟨l,0,none⟩),.int .i64 mt,.map none] 113)=w3:=⟨_,rfl⟩
  obtain⟨f,hf⟩:∃f,w2.heap.size=f:=⟨_,rfl⟩
  have hb3:Blk w3 f #[.pointer (some ⟨p,0,none⟩),.pointer (some ⟨l,0,none⟩),.int .i64 mt,.map none] 113:=by rw[←hw3,←hf];exact Blk.new _ _ _
  have k3:Chg [] w2 w3:=by rw[←hw3];exact (Chg.refl [] w2).alloc _
  rw[hw3,hf]
  have c13:Chg [] w1 w3:=H2.out.chg.nil k3
  have hN3:FsN w3 S1 f p l (.map none) F:=by
   obtain⟨h0,hI,n6,n7,n8,n9,hD1,hL1,hl1,hU1⟩:=HH.out
   exact⟨by rw[hmt];exact hb3,hD1.chg c13,hL1.chg c13 (by simp),small_of hI⟩
  have hal:=fun w' (c:Chg [] w3 w')=>all_any w' S1 f p l (.map none) F (hN3.chg0 c)
  have ht4:=htop w3
  have h1f:w1.heap.size≤f:=by rw[←hf];exact H2.out.chg.size
  have hs3:=H2.out.own.sees.chg0 k3
  have H3:=zC hN3 c13 h1f (show f<w3.heap.size from hb3.lt)
  have tal:decide ((allF F:Int)<1)=false:=by have:=HH.out.2.2.2.2.1;simp;omega
  have tal':decide (allF F<1)=false:=by have:=HH.out.2.2.2.2.1;simp;omega
  have tm1:decide ((mt:Int)<1)=false:=by simp;omega
  have tm1':decide (mt<1)=false:=by simp;omega
  have tm2:decide ((200:Int)<(mt:Int))=false:=by simp;omega
  have tm2':decide (200<mt)=false:=by simp;omega
  obtain⟨al,hale⟩:∃al,allF F=al:=⟨_,rfl⟩
  rw[hale] at tal tal' hal
  clear hw3 hf hb3 k3 hN3 htop c13 h1f
  go_wp2_with fail
  refine ht4.mono ?_
  rintro e w4 ⟨v4,rfl,hF4⟩
  obtain⟨a4,k4,rfl,-⟩:=hF4.shape
  have heq:=equal_any w4 (.slice a2 256 k2) (.slice a4 256 k4) 256 256 (topB mt) (topB mt) (hs3.chg0 hF4.chg) hF4.sees
  rw[decide_eq_true rfl] at heq
  have ha4:=hal w4 hF4.chg
  have H4:=zH hF4.chg
  clear ht4 hF4 hs3
  go_wp2_with fail
  refine heq.mono ?_
  rintro e w5 ⟨rfl,hw5⟩
  obtain rfl:w5=w4:=hw5
  clear heq
  go_wp2_with fail
  refine ha4.mono ?_
  rintro e w6 ⟨rfl,nq,hw6⟩
  have c46:Chg [] w5 w6:=by rw[hw6];exact (Chg.refl [] w5).drewN nq
  have H6:=zH (H4.out.nil c46)
  clear ha4 hw6 c46
  go_wp2_with fail
  go_loopg [11,12,13,14,65] mt (fun k (v11 v12 v13 v14 v65:Value) wr=>∃(i:Nat),v65=.int .i64 i∧Hid (i+k=mt∧Fresh w6 wr 5 1 v11 (256 * i) (Bs ((wholeT F).take (256 * i)))))
  case atStart=>
   exact⟨0,rfl,Nat.zero_add _,Fresh.nil _ _ _⟩
  case round=>
   obtain⟨i,rfl,HJ⟩:=hrel
   have hF11:=HJ.out.2
   obtain⟨a11,k11,rfl,-⟩:=hF11.shape
   by_cases hi:i<mt
   ·have t0:decide ((i:Int)<(mt:Int))=true:=by simp;omega
    have t0':decide (i<mt)=true:=by simp;omega
    have cr:Chg [] w1 wr:=(H3.out.2.1.nil H6.out).nil hF11.chg
    have hri:=hreads wr cr i hi
    have hhr:=hhome wr cr
    obtain⟨m1,m2,m3⟩:=HH.out.2.2.1 i (by rw[hmt];exact hi)
    obtain⟨hp1,hp2⟩:=wholeT_piece HH.out.2.1 (i:=i) (by rw[hmt];exact hi)
    rw[hhm] at m2 hp1 hp2
    have m2':wrap64 ((hm:Int)+1+(i:Int))=((hm+1+i:Nat):Int):=m2
    have e7:=E7.out
    have e7w:=wIq e7
    have m2w:=wIq m2'
    have m3w:=wIq m3
    have hlf:=lf6 HJ.out.1 hi n3
    have hlf1:=hlf.1
    have HQ:=zA hlf.2 hp2
    clear hi cr m1 hp1 hp2 hlf
    go_wp2_with fail
    refine hhr.mono ?_
    rintro e w7 ⟨rfl,hw7⟩
    obtain rfl:w7=wr:=hw7
    clear hhr
    go_wp2_with fail
    refine hri.mono ?_
    rintro e w8 ⟨v8,rfl,hF8⟩
    obtain⟨a8,k8,rfl,-⟩:=hF8.shape
    clear hri
    have hFa:=hF11.to hF8.chg
    go_wp2_with (first
     | (at_builtin;refine wpList_appF rfl _ _ 36 rfl sl_u8y hFa rfl hF8.own.sees rfl (Bs_one _) (lf7 hlf1).1 (lf7 hlf1).2 ?_;intro v9 w9 hF9 c9)
     | fail)
    have H9:=zH hF9
    clear hFa hF8 hF11 c9 hF9 m2 m2' m2w m3 m3w e7 e7w
    go_roundg (gk - 1)
    case measure=>exact HQ.out.1.2
    case rel=>
     have h9:=H9.out
     have e9:Bs ((wholeT F).take (256 * i))++Bs (F.disk.now (hm+1+i))=Bs ((wholeT F).take (256 * (i+1))):=by rw[HQ.out.2];exact (List.map_append).symm
     rw[e9] at h9
     exact⟨i+1,by simp,HQ.out.1.1,h9⟩
   ·have t0:decide ((i:Int)<(mt:Int))=false:=by simp;omega
    have t0':decide (i<mt)=false:=by simp;omega
    have him:i=mt:=lf9 HJ.out.1 hi
    have cr:Chg [] w3 wr:=H6.out.nil hF11.chg
    have har:=hal wr cr
    have H11:=zB him hF11 cr
    clear him cr hF11 hi
    go_wp2_with fail
    refine har.mono ?_
    rintro e w7 ⟨rfl,nq7,hw7⟩
    have c7:Chg [] wr w7:=by rw[hw7];exact (Chg.refl [] wr).drewN nq7
    obtain⟨him,hF11,cr⟩:=H11.out
    have hI:=HH.out.2.1
    have hwl:=wholeT_len hI
    have hS7:Sees w7 1 (.slice a11 (256 * i) k11) (256 * i) (Bs (tableB F.files++nul (F.mt * 256 - (tableB F.files).length))):=by
     have h1:=hF11.own.sees.chg0 c7
     rw[List.take_of_length_le (by rw[hwl,hmt,him];omega)] at h1
     exact h1
    have hin:In w7 (f::l::S1):=by
     have hN7:=H3.out.1.chg0 (cr.nil c7)
     intro k hk
     simp only[List.mem_cons] at hk
     rcases hk with rfl | rfl | hk
     ·exact hN7.blk.lt
     ·exact Blk.lt hN7.log
     ·exact hN7.disk.lt k hk
    have hpa:=parse_ok w7 (f::l::S1) hin _ (256 * i) _ al F.files (by rw[←hale];exact hI.files) (by rw[←hale];exact HH.out.2.2.2.2.2.1) hS7 (by rw[him];exact lf8 n3)
    have H7:=zA (cr.nil c7) (show w3.heap.size≤w7.heap.size from (cr.nil c7).size)
    clear har hw7 c7 him hF11 cr hI hwl hS7 hin
    go_wp2_with fail
    refine hpa.mono ?_
    rintro e w8 ⟨m,rfl,hM8,hm8,c8⟩
    clear hpa
    have hN8:=H3.out.1.chg0 (H7.out.1.nil c8)
    obtain⟨⟨x0,x1,x2,x3⟩,g0,g1,g2,g3⟩:=Blk.c4b hN8.blk
    have H8:=zC hM8 hm8 c8 hN8
    clear hM8 hm8 c8 hN8
    go_wp2_with fail
    refine bodyPost_ret (results_tmp2 rfl _ _ _) rfl ?_
    obtain⟨hM8,hm8,c8,hN8⟩:=H8.out
    obtain⟨h0,hI,-,-,-,-,hD1,hL1,hl1,hU1⟩:=HH.out
    obtain⟨hN3,c13,h1f,hf3⟩:=H3.out
    have hl1':=Blk.lt hL1
    have hsz7:=H7.out.2
    have cS:Chg [f] w8 (w8.setCell ⟨f,3,none⟩ (.map (some m))):=(Chg.refl _ _).setCell (by simp) _
    have hb9:=hN8.blk.set 3 (.map (some m))
    simp only[List.setIfInBounds_toArray,List.set_cons_zero,List.set_cons_succ] at hb9
    have hfS:f∉S1:=fun hh=>by have:=hD1.lt f hh;omega
    have hfl:f≠l:=by omega
    have hfm:f≠m:=by omega
    have hlm:l≠m:=by omega
    have hmS:m∉S1:=fun hh=>by have h1:=hD1.lt m hh;have:=c13.size;omega
    have c18:Chg [] w1 w8:=(c13.nil H7.out.1).nil c8
    refine .inl ⟨h0,f,l,m,S1,rfl,⟨hb9,hN8.disk.off1 hN8.blk (fun i x=>by rcases i with _ | _ | _ | _ | i <;> simp) cS hfS,hN8.log.chg cS (by simp;exact fun e=>hfl e.symm),?_,⟨hfl,hfm,hlm,hfS,hl1,hmS⟩,fun _ h=>by simp at h,hN8.small⟩,⟨?_,fun k hk=>?_⟩⟩
    ·exact (hM8.chg cS (fun k hk=>.inl (by simp at hk;simp[hk])) (by simp;exact fun e=>hfm e.symm)).wide (fun k hk=>.inl (by simp at hk ⊢;rcases hk with h | h | h | h <;> simp[h]))
    ·exact (hU1.chg.nil c18).trans cS (fun t ht=>.inr (by simp at ht;have:=hU1.chg.size;omega))
    ·have hwz:=hU1.chg.size
     simp only[List.mem_cons] at hk
     rcases hk with rfl | rfl | rfl | hk
     ·exact .inr (by omega)
     ·exact hU1.new _ (by simp)
     ·exact .inr (by have:=c13.size;omega)
     ·exact hU1.new _ (by simp[hk])
 ·have t1:((RR.2:Int)==0)=false:=by simp;omega
  have t1':(RR.2==0)=false:=by simp;omega
  have H1:=zB hc hD1 hU1
  clear hc hD1 hU1 hop
  go_wp2_with fail
  refine bodyPost_ret (results_tmp2 rfl _ _ _) rfl ?_
  exact .inr ⟨H1.out.1,rfl,S1,H1.out.2.1,H1.out.2.2⟩
end Go.Proofs.YtlidiclfpklliaaGreatDoor
namespace Go.Aq
open Go.RowKit
end Go.Aq
namespace Go.Aq.Fy
open Go.Aq Go.RowKit
theorem flat_len {g:Nat→Sec} (h:∀k,(g k).length=256):∀ks:List Nat,(ks.flatMap g).length=256 * ks.length
 | []=>rfl
 | k::ks=>by rw[List.flatMap_cons,List.length_append,h,flat_len h ks,List.length_cons];omega
theorem bytesB_len {q:Nat} {F:FsD} (h:FInv q F) {s:Nm} {x:FileD} (hx:(s,x)∈F.files):(bytesB F x).length=x.size:=by
 obtain⟨-,h2⟩:=h.files.size _ hx
 simp only at h2
 unfold bytesB
 rw[List.length_take,flat_len (g:=fun k=>F.disk.now (firstF F+k)) (fun k=>h.rest.len _),h2]
 unfold cnt
 omega
theorem viewF_names (F:FsD):(viewF F).map (·.1)=F.files.map (·.1):=by unfold viewF viewG;exact mapK_keys _ _
theorem FInv.at {q:Nat} {F:FsD} (h:FInv q F) {s:Nm} {x:FileD} (hx:(s,x)∈F.files):s.length≤1048576∧lookK s F.files=some x∧x.size≤256 * x.blocks.length∧x.blocks.length≤4096∧(∀k∈x.blocks,k<allF F)∧(bytesB F x).length=x.size∧x.size≤65535:=by
 obtain⟨h1,h2⟩:=h.files.size _ hx
 simp only at h1 h2
 have h3:=nameOk_len (h.files.name _ hx)
 refine⟨Nat.le_trans h3 (by decide),look_of_mem h.files.asc hx,?_,?_,fun k hk=>h.files.bound k (List.mem_flatMap.2 ⟨_,hx,hk⟩),bytesB_len h hx,h1⟩
 ·rw[h2];unfold cnt;omega
 ·rw[h2];unfold cnt;omega
end Go.Aq.Fy
namespace Go.Proofs.YtlidiclfpklliaaGreatDoor
open Go.RowKit Go.Aq Go.Aq.Fy Go.Maps
def RowsN (w:World) (B:Nat) (ys:List Value) (L:List Sec):Prop:=ys.length=L.length∧∀(i:Nat) (b:Sec),L[i]?=some b→∃y,ys[i]?=some y∧Sees w 1 y b.length (Bs b)∧∀k∈eyes y,B≤k∧k<w.heap.size
theorem RowsN.push {w:World} {B:Nat} {ys:List Value} {L:List Sec} (h:RowsN w B ys L) {y:Value} {b:Sec} (hy:Sees w 1 y b.length (Bs b)) (hn:∀k∈eyes y,B≤k):RowsN w B (ys++[y]) (L++[b]):=by
 refine⟨by simp[h.1],fun i c hc=>?_⟩
 rw[List.getElem?_append] at hc ⊢
 rw[h.1]
 split at hc
 ·rename_i hi
  rw[if_pos hi]
  exact h.2 i c hc
 ·rename_i hi
  rw[if_neg hi]
  have:i - L.length=0:=by
   have:=(List.getElem?_eq_some_iff.1 hc).1
   simp at this
   omega
  rw[this] at hc ⊢
  simp only[List.getElem?_cons_zero,Option.some.injEq] at hc
  subst hc
  exact⟨y,rfl,hy,fun k hk=>⟨hn k hk,hy.lt (by decide) k hk⟩⟩
theorem RowsN.chg {w w':World} {B:Nat} {ys:List Value} {L:List Sec} {T:List Nat} (h:RowsN w B ys L) (c:Chg T w w') (hT:∀(y:Value),y∈ys→Disj (eyes y) T):RowsN w' B ys L:=by
 refine⟨h.1,fun i b hb=>?_⟩
 obtain⟨y,e,hs,hn⟩:=h.2 i b hb
 exact⟨y,e,hs.chg c (hT y (List.mem_of_getElem? e)),fun k hk=>⟨(hn k hk).1,Nat.lt_of_lt_of_le (hn k hk).2 c.size⟩⟩
theorem RowsN.mem {w:World} {B:Nat} {ys:List Value} {L:List Sec} (h:RowsN w B ys L) {y:Value} (hy:y∈ys):∀k∈eyes y,B≤k∧k<w.heap.size:=by
 obtain⟨i,hi,rfl⟩:=List.getElem_of_mem hy
 obtain⟨y',e,-,h3⟩:=h.2 i (L[i]'(by rw[←h.1];exact hi)) (List.getElem?_eq_getElem _)
 rw[List.getElem?_eq_getElem hi] at e
 cases e
 exact h3
def DoEndX (w:World) (Sd X:List Nat) (f d l bf:Nat) (R:FsD×Nat) (e:Ending) (w':World):Prop:=
 e=.returned (.int .i64 R.2)∧∃Sd' bf',FsR w' Sd' X f d l bf' R.1∧Upd (f::l::bf::Sd) (f::l::bf'::Sd') w w'
theorem DoEndX.same {w w':World} {Sd X:List Nat} {f d l bf:Nat} {F:FsD} (h:FsR w Sd X f d l bf F) (c:Chg [] w w') (e:Nat):DoEndX w Sd X f d l bf (F,e) (.returned (.int .i64 (e:Int))) w':=
 ⟨rfl,Sd,bf,h.chg0 c,c.toS,fun _ h=>.inl h⟩
theorem lin7 {i k m:Nat} (h:i+k=m) (hi:i<m):i+1+(k - 1)=m∧k - 1<k:=by omega
theorem do_fsr {w w8 w9 w10:World} {Sd S9 T X:List Nat} {f d l bf bf':Nat} {F:FsD} {D2:DiskD} {L9:LogD} {fs:Files} (hF8:FsR w8 Sd X f d l bf F) (hX:∀k∈X,k<w.heap.size) (c8:Chg [] w w8) (hlt:In w (f::l::bf::Sd)) (hD9:DiskR w9 S9 d D2) (hL9:LogR w9 l d L9) (hU9:Upd (l::Sd) (l::S9) w8 w9) (hl9:l∉S9)
  (hr:L9.ring=F.log.ring) (hn:D2.n=F.disk.n) (hfs:FilesR w8 T bf' fs) (hTX:∀k∈X,k∈T) (hT:∀k∈f::l::bf'::Sd,k∈T) (hb:bf'=bf∨w.heap.size≤bf'∧bf'<w8.heap.size) (c10:Chg [f] w9 w10) (hb10:Blk w10 f #[.pointer (some ⟨d,0,none⟩),.pointer (some ⟨l,0,none⟩),.int .i64 F.mt,.map (some bf')] 113):
  FsR w10 S9 X f d l bf' ⟨D2,L9,F.mt,fs⟩∧Upd (f::l::bf::Sd) (f::l::bf'::S9) w w10:=by
 obtain⟨n1,n2,n3,n4,n5,n6⟩:=hF8.ne
 have hs8:=c8.size
 have hfl:=hlt f (by simp)
 have hll:=hlt l (by simp)
 have hbl:=hlt bf (by simp)
 have hf9:f∉S9:=fun hh=>by
  rcases hU9.new f (by simp[hh]) with h1 | h1
  ·rcases List.mem_cons.1 h1 with h2 | h2
   ·exact n1 h2
   ·exact n4 h2
  ·omega
 have hbS:bf'∉l::Sd:=fun hh=>by
  rcases hb with rfl | ⟨h1,h2⟩
  ·rcases List.mem_cons.1 hh with h3 | h3
   ·exact n3 h3.symm
   ·exact n6 h3
  ·rcases List.mem_cons.1 hh with h3 | h3
   ·omega
   ·have:=hlt bf' (by simp[h3]);omega
 have hb9:bf'∉S9:=fun hh=>by
  rcases hU9.new bf' (by simp[hh]) with h1 | h1
  ·exact hbS h1
  ·rcases hb with rfl | ⟨_,h2⟩ <;> omega
 have hbf:f≠bf':=by rcases hb with rfl | ⟨h1,h2⟩;(exact n2);omega
 have hbl':l≠bf':=fun e=>hbS (by simp[e])
 have hnew:∀k∈S9,k∈l::Sd∨w8.heap.size≤k:=fun k hk=>hU9.new k (by simp[hk])
 have hblk9:=hF8.blk.chg hU9.chg (fun hh=>by rcases List.mem_cons.1 hh with h | h;(exact n1 h);exact n4 h)
 have hD10:DiskR w10 S9 d D2:=hD9.off1 hblk9 (fun i x=>by rcases i with _ | _ | _ | _ | i <;> simp) c10 hf9
 have hL10:LogR w10 l d L9:=hL9.chg c10 (by simpa using fun e=>n1 e.symm)
 have hsm:=hF8.small
 have hfi:firstF ⟨D2,L9,F.mt,fs⟩=firstF F:=by unfold firstF homeL;rw[hr]
 have haway:Disj X (f::l::bf'::S9):=fun k hk hk'=>by
  have h1:=hF8.away k hk
  have h2:=hX k hk
  simp only[List.mem_cons,not_or] at h1 hk'
  rcases hk' with h | h | h | h
  ·exact h1.1 h
  ·exact h1.2.1 h
  ·rcases hb with rfl | ⟨h3,_⟩
   ·exact h1.2.2.1 h
   ·omega
  ·rcases hnew k h with h3 | h3
   ·rcases List.mem_cons.1 h3 with h4 | h4
    ·exact h1.2.1 h4
    ·exact h1.2.2.2 h4
   ·omega
 refine⟨⟨hb10,hD10,hL10,?_,⟨n1,hbf,hbl',hf9,hl9,hb9⟩,haway,?_⟩,?_,?_⟩
 ·have h1:=hfs.wide (T:=T++S9) (fun k hk=>by
   rcases List.mem_append.1 hk with h | h
   ·exact .inl h
   ·rcases hnew k h with h2 | h2
    ·refine .inl (hT k ?_)
     simp only[List.mem_cons] at h2 ⊢
     rcases h2 with h2 | h2
     ·exact .inr (.inl h2)
     ·exact .inr (.inr (.inr h2))
    ·exact .inr h2)
  have h2:=h1.chg hU9.chg (fun k hk=>.inl (List.mem_append_left _ (hT k (by
   simp only[List.mem_cons] at hk ⊢
   rcases hk with h2 | h2
   ·exact .inr (.inl h2)
   ·exact .inr (.inr (.inr h2)))))) hbS
  have h3:=h2.chg c10 (fun k hk=>.inl (by simp at hk;subst hk;exact List.mem_append_left _ (hT _ (by simp)))) (by simpa using fun e=>hbf e.symm)
  exact h3.wide fun k hk=>.inl (by
   simp only[List.mem_append,List.mem_cons] at hk
   rcases hk with h | h | h | h | h
   ·exact List.mem_append_left _ (hTX k h)
   ·exact List.mem_append_left _ (hT k (by simp[h]))
   ·exact List.mem_append_left _ (hT k (by simp[h]))
   ·exact List.mem_append_left _ (hT k (by simp[h]))
   ·exact List.mem_append_right _ h)
 ·rw[hfi]
  simp only[hr,hn]
  exact hsm
 ·refine (c8.toS.tr (hU9.chg.mono (fun k hk=>.inl ?_))).tr (c10.mono (fun k hk=>.inl (by simp at hk;simp[hk])))
  simp only[List.mem_cons] at hk ⊢
  rcases hk with h | h
  ·exact .inr (.inl h)
  ·exact .inr (.inr (.inr h))
 ·intro k hk
  simp only[List.mem_cons] at hk ⊢
  rcases hk with h | h | h | h
  ·exact .inl (.inl h)
  ·exact .inl (.inr (.inl h))
  ·subst h
   rcases hb with rfl | ⟨h1,_⟩
   ·exact .inl (.inr (.inr (.inl rfl)))
   ·exact .inr h1
  ·rcases hnew k h with h2 | h2
   ·simp only[List.mem_cons] at h2
    rcases h2 with h2 | h2
    ·exact .inl (.inr (.inl h2))
    ·exact .inl (.inr (.inr (.inr h2)))
   ·exact .inr (by omega)
set_option maxRecDepth 100000 in
theorem rows_nil (a:Option Addr) (n c:Nat) (w:World):(binOp .eql 23 (.slice a n c) (.slice none 0 0)).run Tryz.prog w=.ok (.bool a.isNone) w:=Lib.run_eql_slice_nil w _ _ _ _ _ _ _ Tryz.underlying23
set_option maxRecDepth 100000 in
theorem do_okX {q:Nat} (w:World) (Sd X:List Nat) (f d l bf:Nat) (F:FsD) (hF:FsR w Sd X f d l bf F) (hX:∀k∈X,k<w.heap.size) (hI:FInv q F) (hq:q<2^47) (cs:List ChangeD) (hcs:∀c∈cs,c.name.length≤1048576∧c.tonm.length≤1048576∧c.data.length≤1000000) (hcl:cs.length≤1000) (v:Value) (xs:List Value) (hv:Sees w 4 v cs.length xs) (hx:CellsC w cs xs):
  Calls Tryz.prog 22 #[.pointer (some ⟨f,0,none⟩),v] w (DoEndX w Sd X f d l bf (doF F cs)):=by
 have HX0:=zH hX
 clear hX
 obtain⟨⟨c0,c1,c2,c3⟩,-⟩:=Blk.c4b hF.blk
 have hcl0:=fclone_any w _ bf F.files hF.files
 obtain⟨ao,cap,rfl,-⟩:=hv.shape
 obtain⟨N,hN⟩:∃N,cs.length=N:=⟨_,rfl⟩
 obtain⟨R,hR⟩:∃R,doF F cs=R:=⟨_,rfl⟩
 rw[hN] at hv hcl ⊢
 rw[hR]
 have hltF:=hF.lt
 have HH:=zH (And.intro hF (And.intro hI (And.intro hq (And.intro hcs (And.intro hcl (And.intro hv (And.intro hx (And.intro hN (And.intro hR hltF)))))))))
 clear hF hI hq hcs hcl hv hx hN hR hltF
 go_enter Tryz.func22,Tryz.ntmps22
 go_wp2_with fail
 refine hcl0.mono ?_
 rintro e w1 ⟨rfl,hL1,c1w,hlt1⟩
 clear hcl0
 obtain⟨bl,hbl⟩:∃bl,w.heap.size=bl:=⟨_,rfl⟩
 rw[hbl] at hL1 hlt1 ⊢
 obtain⟨w2,hw2⟩:∃w2,w1.alloc (.map #[] 0)=w2:=⟨_,rfl⟩
 obtain⟨br,hbr⟩:∃br,w1.heap.size=br:=⟨_,rfl⟩
 have rm:(Instr.makeMap 87 none).run Tryz.prog w1=.ok (.map (some br)) w2:=by rw[←hw2,←hbr];kernel_rfl
 have k2:Chg [] w1 w2:=by rw[←hw2];exact (Chg.refl [] w1).alloc _
 have hRm:MapS Tryz.prog 9 w2 br []:=by rw[←hw2,←hbr];exact MapS.made _ _ _
 have hsz2:=zH (show w2.heap.size=br+1 by rw[←hw2,←hbr];simp)
 clear hw2
 go_upto_region 2 with (fail)
 obtain⟨w3,hw3⟩:∃w3,w2.alloc (.cells #[.pointer (some ⟨f,0,none⟩),.map (some bl),.map (some br)] 115)=w3:=⟨_,rfl⟩
 obtain⟨g,hg⟩:∃g,w2.heap.size=g:=⟨_,rfl⟩
 have hbg:Blk w3 g #[.pointer (some ⟨f,0,none⟩),.map (some bl),.map (some br)] 115:=by rw[←hw3,←hg];exact Blk.new _ _ _
 have k3:Chg [] w2 w3:=by rw[←hw3];exact (Chg.refl [] w2).alloc _
 rw[hw3,hg]
 clear hw3
 have hlt:=HH.out.2.2.2.2.2.2.2.2.2
 have hold:∀t∈f::l::bf::Sd,t<bl:=fun t ht=>by have:=hlt t ht;omega
 have holdX:∀t∈X++f::l::bf::Sd,t<bl:=fun t ht=>by
  rcases List.mem_append.1 ht with h | h
  ·have:=HX0.out t h;omega
  ·exact hold t h
 have HO:=zH holdX
 have hW:WorkR w3 (X++f::l::bf::Sd) g f bl br ⟨F.files,[]⟩:=by
  have hsz2:=hsz2.out
  have h1:=hL1 (bl::br::(X++f::l::bf::Sd)) (fun t ht=>by
   rcases List.mem_cons.1 ht with h | ht
   ·exact .inr (by omega)
   rcases List.mem_cons.1 ht with h | h
   ·exact .inr (by omega)
   ·exact .inl h)
  refine⟨hbg,((h1.chg k2 (by simp) (by simp)).chg k3 (by simp) (by simp)),⟨[],hRm.chg0 k3,trivial⟩,by omega,fun hh=>?_,fun hh=>?_,fun hh=>?_⟩
  ·rcases List.mem_cons.1 hh with h | hh
   ·omega
   rcases List.mem_cons.1 hh with h | h
   ·omega
   ·have:=holdX g h;omega
  ·have:=holdX bl hh;omega
  ·have:=holdX br hh;omega
 have H3:=zD hW ((c1w.nil k2).nil k3) hbl hold (show bl<br by omega)
 have HG:=zH (show bl≤g by have:=hsz2.out;omega)
 clear hW c1w k2 k3 hRm hbg hL1 hlt1 hbl hbr hg hsz2 hlt hold holdX rm c0 c1 c2 c3
 go_wp2_with fail
 go_loopg [7,8,25] N (fun k (v7 v8 v25:Value) wr=>∃(i:Nat) (W:WorkD),v25=.int .i64 i∧Hid (i+k=N∧WorkR wr (X++f::l::bf::Sd) g f bl br W∧WorkOk (blks F.files) W∧Chg [] w wr∧allW F ⟨F.files,[]⟩ cs=allW F W (cs.drop i)))
 case atStart=>exact⟨0,⟨F.files,[]⟩,rfl,Nat.zero_add _,H3.out.1,WorkOk.start HH.out.2.1.files,H3.out.2.1,rfl⟩
 case round=>
  obtain⟨i,W,rfl,HW⟩:=hrel
  by_cases hi:i<N
  ·have t0:decide ((i:Int)<(N:Int))=true:=by simp;omega
   have t0':decide (i<N)=true:=by simp;omega
   obtain⟨hik,hW,hWo,cw,hall⟩:=HW.out
   have hil:i<cs.length:=by rw[HH.out.2.2.2.2.2.2.2.1];exact hi
   obtain⟨g1,o1,cp1,e,-,-,hcell⟩:=(HH.out.2.2.2.2.2.1.chg0 cw).cells (by omega)
   cases e
   obtain⟨c,hc⟩:∃c,cs[i]'hil=c:=⟨_,rfl⟩
   have hget:cs[i]?=some c:=by rw[List.getElem?_eq_getElem hil,hc]
   have hdrop:cs.drop i=c::cs.drop (i+1):=by rw[List.drop_eq_getElem_cons hil,hc]
   obtain⟨dv,k0,k1,k2,k3,hdv⟩:=(HH.out.2.2.2.2.2.2.1).get hget
   have hdl:∀j∈eyes dv,j<w.heap.size:=fun j hj=>by
    by_cases h0:c.data.length=0
    ·obtain⟨ad,cd,rfl,-⟩:=hdv.shape
     rw[h0] at hj
     cases ad <;> simp[eyes] at hj
    ·exact hdv.lt (by decide) j hj
   have hdv':=hdv.chg0 cw
   obtain⟨ad,cd,rfl,-⟩:=hdv.shape
   have z0:=hcell (i * 4) (by omega)
   have z1:=hcell (i * 4+1) (by omega)
   have z2:=hcell (i * 4+2) (by omega)
   have z3:=hcell (i * 4+3) (by omega)
   rw[show i * 4=4 * i by omega] at z0 z1 z2 z3
   rw[k0] at z0
   rw[k1] at z1
   rw[k2] at z2
   rw[k3] at z3
   rw[show 4 * i=i * 4 by omega] at z0 z1 z2 z3
   rw[show o1+(i * 4+1)=o1+i * 4+1 by omega] at z1
   rw[show o1+(i * 4+2)=o1+i * 4+2 by omega] at z2
   rw[show o1+(i * 4+3)=o1+i * 4+3 by omega] at z3
   obtain⟨hs,ht,hb⟩:=HH.out.2.2.2.1 c (by rw[←hc];exact List.getElem_mem hil)
   have hdd:Disj (eyes (.slice ad c.data.length cd)) [bl,br]:=fun j hj hj'=>by
    have h1:=hdl j hj
    have h2:=H3.out.2.2.1
    have h3:=H3.out.2.2.2.2
    simp only[List.mem_cons,List.not_mem_nil,or_false] at hj'
    rcases hj' with rfl | rfl <;> omega
   have hsub:W.fresh.length≤1000:=by
    have h1:=hWo.few
    have h2:W.fresh.length≤W.files.length:=fresh_le hWo
    omega
   have hone:=fun w' (k:Chg [] wr w')=>one_ok w' (X++f::l::bf::Sd) g f bl br F W (hW.chg0 k) (fun t ht=>by have h1:=HO.out t ht;have h2:=(cw.nil k).size;have h3:=H3.out.2.2.1;omega) c hs ht (.slice ad c.data.length cd) (hdv'.chg0 k) hdd hb (by have:=hWo.few;omega) hsub
    (fun hh=>bytes_any w' Sd X (X++f::l::bf::Sd) (fun t ht=>by have h1:=HO.out t ht;have h2:=(cw.nil k).size;have h3:=H3.out.2.2.1;omega) (fun t ht=>List.mem_append_right _ ht) g d bl br F W (hW.chg0 k) (HH.out.1.chg0 (cw.nil k)) HH.out.2.1 hWo c.name hs hh)
   have hstep:=one_step (F:=F) hWo c
   have e2:wrap64 ((i:Int)+1)=((i+1:Nat):Int):=by unfold wrap64;have:=HH.out.2.2.2.2.1;omega
   have e2w:=wIq e2
   obtain⟨nd,hnd⟩:∃nd,c.data.length=nd:=⟨_,rfl⟩
   rw[hnd] at z3 hone
   obtain⟨ck,hck⟩:∃ck,c.kind=ck:=⟨_,rfl⟩
   obtain⟨cn,hcn⟩:∃cn,c.name=cn:=⟨_,rfl⟩
   obtain⟨ct,hct⟩:∃ct,c.tonm=ct:=⟨_,rfl⟩
   rw[hck] at z0 hone
   rw[hcn] at z1 hone
   rw[hct] at z2 hone
   have hall2:allW F ⟨F.files,[]⟩ cs=if (oneW F W c).2=0 then allW F (oneW F W c).1 (cs.drop (i+1)) else oneW F W c:=by rw[hall,hdrop];rfl
   obtain⟨R1,hR1⟩:∃R1,oneW F W c=R1:=⟨_,rfl⟩
   rw[hR1] at hone hall2 hstep
   obtain⟨W1,e1⟩:=R1
   simp only at hall2
   obtain⟨wA,hwA⟩:∃wA,wr.alloc (.cells #[.int .i64 ck,.string (str cn),.string (str ct),.slice ad nd cd] 63)=wA:=⟨_,rfl⟩
   obtain⟨K,hK⟩:∃K,wr.heap.size=K:=⟨_,rfl⟩
   have hca:Chg [] wr wA:=by rw[←hwA];exact (Chg.refl [] wr).alloc _
   have hbx:Blk wA K #[.int .i64 ck,.string (str cn),.string (str ct),.slice ad nd cd] 63:=by rw[←hwA,←hK];exact Blk.new _ _ _
   obtain⟨⟨b0,b1,b2,b3⟩,-⟩:=Blk.c4b hbx
   have hone1:=hone wA hca
   have HR:=zC (lin7 hik hi) hall2 hstep.1 (cw.nil hca)
   clear hik hW hWo cw hall hil hcell hc hget hdrop k0 k1 k2 k3 hdv hdl hdv' hs ht hb hdd hsub hone hstep hnd hck hcn hct hall2 hR1 hbx hca HW
   go_wp2_with fail
   refine hone1.mono ?_
   rintro e w4 ⟨rfl,hW4,c4⟩
   have H4:=zA hW4 (show Chg [] w w4 from HR.out.2.2.2.trans c4 (fun t ht=>.inr (by have h2:=H3.out.2.2.1;have h3:=H3.out.2.2.2.2;simp at ht;omega)))
   clear hW4 c4 hone1 z0 z1 z2 z3 b0 b1 b2 b3 hwA hK
   by_cases he:e1=0
   ·subst he
    go_wp2_with fail
    go_roundg (gk - 1)
    case measure=>exact HR.out.1.2
    case rel=>exact⟨i+1,W1,by simp,HR.out.1.1,H4.out.1,HR.out.2.2.1,H4.out.2,by have:=HR.out.2.1;simpa using this⟩
   ·have t5:(((e1:Nat):Int) != 0)=true:=by simp;omega
    have t5':(e1 != 0)=true:=by simp;omega
    have HE:=zH he
    clear he
    go_wp2_with fail
    go_ret
    have h1:=HR.out.2.1
    rw[if_neg HE.out] at h1
    rw[←HH.out.2.2.2.2.2.2.2.2.1,doF_err1 h1 HE.out]
    exact DoEndX.same HH.out.1 H4.out.2 e1
  ·have t0:decide ((i:Int)<(N:Int))=false:=by simp;omega
   have t0':decide (i<N)=false:=by simp;omega
   obtain⟨hik,hW,hWo,cw,hall⟩:=HW.out
   have hall2:allW F ⟨F.files,[]⟩ cs=(W,0):=by rw[hall,List.drop_eq_nil_of_le (by rw[HH.out.2.2.2.2.2.2.2.1];omega)];rfl
   have HA:=zC hW hWo cw hall2
   clear hik hW hWo cw hall hall2 hi HW
   go_wp2_with fail
   have hks:=(HH.out.2.1.files.facts (by have:=HH.out.1.small;unfold allF;omega))
   have hpl:=Go.Proofs.YtlidiclfpklliaaGreatDoor.place_ok wr Sd X (X++f::l::bf::Sd) (fun t ht=>by have h1:=HO.out t ht;have h2:=HA.out.2.2.1.size;have h3:=H3.out.2.2.1;omega) g f d l bf bl br F W HA.out.1 (fun w' c=>HH.out.1.chg0 (HA.out.2.2.1.trans c (fun t ht=>.inr (by have h2:=H3.out.2.2.1;have h3:=H3.out.2.2.2.2;simp at ht;omega)))) hks.2.2 (fun p hp=>(hks.1 p hp).2)
    (fun p hp=>by
     have h1:=HA.out.2.1.sub p.1 p.2 (look_of_mem HA.out.2.1.asc2 hp)
     have h2:=nameOk_len (HA.out.2.1.name _ (look_mem h1.1))
     simp only at h2
     exact⟨by omega,h1.2⟩) (by have h1:=fresh_le HA.out.2.1;have h2:=HA.out.2.1.few;omega) HA.out.2.1.few
   clear hks
   refine hpl.mono ?_
   rintro e w5 (⟨hlt5,rfl,hW5,c5⟩ | ⟨hle5,v9,xs9,rfl,hO9,hP9,hW5,c5⟩)
   ·have H5:=zA hlt5 (HA.out.2.2.1.nil c5)
    clear hpl hlt5 hW5 c5
    go_wp2_with fail
    go_ret
    rw[←HH.out.2.2.2.2.2.2.2.2.1,doF_err2 HA.out.2.2.2 H5.out.1]
    exact DoEndX.same HH.out.1 H5.out.2 8
   clear hpl
   obtain⟨ok1,-⟩:=Go.Aq.Fy.place_ok (first:=firstF F) (PlaceOk.start HH.out.2.1.files HA.out.2.1 hle5)
   obtain⟨fs,hfs⟩:∃fs,placeF W.fresh (freeF F) W.files=fs:=⟨_,rfl⟩
   obtain⟨B,hB⟩:∃B,placeP (firstF F) W.fresh (freeF F)=B:=⟨_,rfl⟩
   rw[hfs] at hW5 ok1
   rw[hB] at hO9 hP9
   have hall4:allF F≤4096:=by have:=HH.out.1.small;unfold allF;omega
   have hBl:B.length≤4096:=by rw[←hB,placeP_len _ _ _ hle5];have:=free_len F;omega
   obtain⟨m9,hm9⟩:∃m9,B.length=m9:=⟨_,rfl⟩
   rw[hm9] at hO9
   obtain⟨a9,q9,rfl,-⟩:=hO9.shape
   have cw5:Chg [] w w5:=HA.out.2.2.1.trans c5 (fun t ht=>.inr (by have h2:=H3.out.2.2.1;simp at ht;omega))
   have hF5:=HH.out.1.chg0 cw5
   have hfx:=ok1.facts hall4
   have hsx:=sectors_ok' w5 f F.mt _ _ _ hF5.blk HH.out.2.1.geo.mt.1 HH.out.2.1.geo.mt.2 _ bl fs hW5.files ok1.few hfx.1 hfx.2.1
   obtain⟨⟨y0,y1,y2⟩,-⟩:=hW5.blk.c3b
   have H5:=zH (And.intro hle5 (And.intro hfs (And.intro hB (And.intro hm9 (And.intro hO9 (And.intro hP9 (And.intro hW5 (And.intro cw5 (And.intro ok1 (And.intro hBl (And.intro hall4 hfx)))))))))))
   clear hle5 hfs hB hm9 hO9 hP9 hW5 c5 cw5 ok1 hBl hall4 hF5 hfx
   go_wp2_with fail
   refine hsx.mono ?_
   rintro e w6 ⟨c6,(⟨hno,rfl⟩ | ⟨hfit,ao6,cap6,g6,cg6,rfl,hO6,hao6,hg6,hB6⟩)⟩
   ·have H6:=zA hno (H5.out.2.2.2.2.2.2.2.1.nil c6)
    clear hsx hno c6
    have hnil:=rows_nil none 0 0
    go_wp2_with fail
    go_ret
    rw[←HH.out.2.2.2.2.2.2.2.2.1,doF_err3 HA.out.2.2.2 H5.out.1 (by rw[H5.out.2.1];exact H6.out.1)]
    exact DoEndX.same HH.out.1 H6.out.2 8
   clear hsx
   have H6:=zB c6 hfit (H5.out.2.2.2.2.2.2.2.1.nil c6)
   have hg6S:g6∉Sd:=fun hh=>by have h1:=HH.out.1.lt g6 (by simp[hh]);have h2:=H5.out.2.2.2.2.2.2.2.1.size;omega
   have hks:=HH.out.2.1.files.facts H5.out.2.2.2.2.2.2.2.2.2.2.1
   have hdf:=differ_ok w6 Sd X f d l bf F (HH.out.1.chg0 H6.out.2.2) HH.out.2.1.geo.mt.1 HH.out.2.1.files.few hks.1 hks.2.1 HH.out.2.1.tlen fs hfit ao6 cap6 g6 cg6 hO6.sees hB6 Sd hg6S
   clear c6 hfit hO6 hao6 hg6 hB6 hg6S hks y0 y1 y2
   have hnil:=rows_nil (some ao6) F.mt cap6
   go_wp2_with fail
   refine hdf.mono ?_
   rintro e w7 ⟨v12,xs12,rfl,hF12,hP12⟩
   obtain⟨t,ht⟩:∃t,diffF F fs=t:=⟨_,rfl⟩
   obtain⟨nt,hnt⟩:∃nt,t.length=nt:=⟨_,rfl⟩
   rw[ht,hnt] at hF12
   rw[ht] at hP12
   obtain⟨a12,q12,rfl,-⟩:=hF12.shape
   have hdl:=(diff_at HH.out.2.1 fs).2.1
   rw[ht,hnt] at hdl
   have cw7:=H6.out.2.2.nil hF12.chg
   have hnd:=fun w'=>need_ok w' (.pointer (some ⟨l,0,none⟩)) nt (by omega)
   have hrg:=fun r=>ring_ok (w7.drewN r) l d F.log ((HH.out.1.log.chg cw7 (by simp)).chg ((Chg.refl [] w7).drewN r) (by simp))
   obtain⟨⟨-,c1,-,-⟩,-⟩:=Blk.c4b (HH.out.1.blk.chg0 cw7)
   have H7:=zE ht hnt hF12 hP12 cw7 hdl
   clear hdf ht hnt hF12 hP12 cw7 hdl
   obtain⟨nn,hnn⟩:∃nn,need nt=nn:=⟨_,rfl⟩
   obtain⟨rg,hrg2⟩:∃rg,F.log.ring=rg:=⟨_,rfl⟩
   rw[hnn] at hnd
   rw[hrg2] at hrg
   have HN:=zA hnn hrg2
   clear hnn hrg2
   go_wp2_with fail
   go_quiet (first | (exact Calls.quiet_of_same (hnd _)) | (exact Calls.quiet_of_same (hrg _)))
   have c78:Chg [] w7 (w7.drewN nq):=(Chg.refl _ _).drewN nq
   obtain⟨w8,hw8⟩:∃w8,w7.drewN nq=w8:=⟨_,rfl⟩
   rw[hw8] at c78 ⊢
   clear hw8 hnd hrg c1 hnil
   have H8:=zA c78 (H7.out.2.2.2.2.1.nil c78)
   clear c78
   by_cases hbig:rg<nn
   ·have t1:decide ((rg:Int)<(nn:Int))=true:=by simp;omega
    have t1':decide (rg<nn)=true:=by simp;omega
    have HB:=zH hbig
    clear hbig
    go_wp2_with fail
    go_ret
    rw[←HH.out.2.2.2.2.2.2.2.2.1,doF_err4 HA.out.2.2.2 H5.out.1 (by rw[H5.out.2.1];exact H6.out.2.1) (by rw[H5.out.2.1,H7.out.1,H7.out.2.1,HN.out.1,HN.out.2];exact HB.out)]
    exact DoEndX.same HH.out.1 H8.out.2 9
   have t1:decide ((rg:Int)<(nn:Int))=false:=by simp;omega
   have t1':decide (rg<nn)=false:=by simp;omega
   have hroom:need t.length≤F.log.ring:=by rw[H7.out.2.1,HN.out.1,HN.out.2];exact Nat.not_lt.1 hbig
   obtain⟨RR,hRR⟩:∃RR,runP F.disk ((if B=[] then [] else [B])++commitP F.log t)=RR:=⟨_,rfl⟩
   have hrun:=doF_run HA.out.2.2.2 H5.out.1 H5.out.2.1 H6.out.2.1 H7.out.1 hroom H5.out.2.2.1 hRR
   have hdn:=doF_n HH.out.2.1 HH.out.2.2.1 cs
   have hF8:=HH.out.1.chg0 H8.out.2
   have hda:=diff_at HH.out.2.1 fs
   rw[H7.out.1] at hda
   have c58:Chg [] w5 w8:=((H6.out.1).nil H7.out.2.2.1.chg).nil H8.out.1
   have hall4:=H5.out.2.2.2.2.2.2.2.2.2.2.1
   have hsm:=HH.out.1.small
   have hseq:=HH.out.2.1.seq
   have hq47:=HH.out.2.2.1
   have hpos:=HH.out.2.1.geo.pos
   have hwr:=fwrite_ok w8 Sd f F.mt bf l d F.disk F.log hF8.blk ⟨hF8.ne.2.2.2.1,hF8.ne.1⟩ hF8.disk hF8.log hF8.ne.2.2.2.2.1 HH.out.2.1.rest.up B (by rw[HH.out.2.1.rest.pend];have:=H5.out.2.2.2.2.2.2.2.2.2.1;simp only[List.length_nil];omega)
    (fun p hp=>by
     have h1:=placeP_ok (first:=firstF F) (all:=allF F) (r:=W.fresh) (free:=freeF F) (fun k hk=>by unfold freeF at hk;exact List.mem_range.1 (List.mem_filter.1 hk).1)
     rw[H5.out.2.2.1] at h1
     have h2:=(h1 p hp).1
     have h3:=firstF_le HH.out.2.1
     omega)
    (.slice a9 m9 q9) xs9 (by rw[H5.out.2.2.2.1];exact H5.out.2.2.2.2.1.own.sees.chg0 c58) (H5.out.2.2.2.2.2.1.upd ⟨c58.toS,fun k hk=>.inl (by simp[hk])⟩)
    (fun k hk hk'=>by have h1:=H5.out.2.2.2.2.1.new k (eyes_own _ k hk);have h2:=HH.out.1.lt k (by simp[hk']);have h3:=HA.out.2.2.1.size;omega)
    hsm.2.1 hsm.1 (by omega) (by omega) t nt H7.out.2.1 (.slice a12 nt q12) xs12 (H7.out.2.2.1.own.sees.chg0 H8.out.1) (H7.out.2.2.2.1.upd ⟨H8.out.1.toS,fun k hk=>.inl (List.mem_append_right _ hk)⟩)
    (fun k hk hk'=>by have h1:=H7.out.2.2.1.new k (eyes_own _ k hk);have h2:=HH.out.1.lt k (by simp[hk']);have h3:=H6.out.2.2.size;omega)
    (by have:=H7.out.2.2.2.2.2;omega) hda.2.2 hda.1 (by rw[←H7.out.2.1];exact hroom)
   rw[hRR] at hwr
   have hLN:(if t=[] then F.log else nextL F.log nt)=(if t=[] then F.log else nextL F.log t.length):=by rw[H7.out.2.1]
   rw[hLN] at hwr
   have HX:=zD hrun hdn hF8 c58 hsm
   obtain⟨⟨-,y1,-⟩,-⟩:=(H5.out.2.2.2.2.2.2.1.chg0 c58).blk.c3b
   clear hbig hroom hrun hdn hF8 hda c58 hall4 hsm hseq hq47 hpos hRR hLN
   obtain⟨D2,e9⟩:=RR
   rw[t1']
   go_wp2_with fail
   refine hwr.mono ?_
   rintro e w9 ⟨rfl,S9,hD9,hL9,hl9,hU9⟩
   simp only at hD9 hL9
   have hoff9:∀k∈f::bf::bl::br::g::[],k∉l::Sd:=fun k hk hk'=>by
    have hne:=HX.out.2.2.1.ne
    have hg0:=H5.out.2.2.2.2.2.2.1.offg
    have hd1:=H3.out.2.2.2.1
    have hd2:=H3.out.2.2.2.2
    have hkl:k<bl:=hd1 k (by rcases List.mem_cons.1 hk' with h | h <;> simp[h])
    have hgl:bl≤g:=by have h1:=H5.out.2.2.2.2.2.2.1;have:=H3.out.1.blk.lt;have h2:=HG.out;omega
    simp only[List.mem_cons,List.not_mem_nil,or_false] at hk
    rcases hk with rfl | rfl | rfl | rfl | rfl
    ·rcases List.mem_cons.1 hk' with h | h
     ·exact hne.1 h
     ·exact hne.2.2.2.1 h
    ·rcases List.mem_cons.1 hk' with h | h
     ·exact hne.2.2.1 h.symm
     ·exact hne.2.2.2.2.2 h
    ·omega
    ·omega
    ·omega
   have hU9':=hU9
   have y1:=hU9.chg.cell_some y1 (hoff9 g (by simp))
   have hb9:=HX.out.2.2.1.blk.chg hU9.chg (hoff9 f (by simp))
   obtain⟨⟨-,-,-,x3⟩,-,-,-,f3⟩:=Blk.c4b hb9
   have H9:=zE hD9 hL9 hl9 hU9 hb9 hoff9
   clear hD9 hL9 hl9 hU9 hU9' hb9 hoff9 hwr
   by_cases he9:e9=0
   ·subst he9
    go_wp2_with fail
    go_ret
    have hrun:=HX.out.1
    simp only[if_true] at hrun
    rw[←HH.out.2.2.2.2.2.2.2.2.1,hrun]
    have hdn:=HX.out.2.1
    rw[hrun] at hdn
    have hbs:=H9.out.2.2.2.2.1.set 3 (.map (some bl))
    simp only[List.setIfInBounds_toArray,List.set_cons_zero,List.set_cons_succ] at hbs
    have hblw:=H3.out.2.2.1
    obtain⟨r1,r2⟩:=do_fsr HX.out.2.2.1 HX0.out H8.out.2 HH.out.2.2.2.2.2.2.2.2.2 H9.out.1 H9.out.2.1 H9.out.2.2.2.1 H9.out.2.2.1 (by show (afterL 0 F.log _).ring=_;unfold afterL;rw[if_pos rfl];split <;> rfl) hdn (H5.out.2.2.2.2.2.2.1.files.chg0 HX.out.2.2.2.1) (fun k hk=>by simp[hk]) (fun k hk=>by
     simp only[List.mem_cons,List.mem_append] at hk ⊢
     rcases hk with h | h | h | h
     ·exact .inr (.inr (.inr (.inl h)))
     ·exact .inr (.inr (.inr (.inr (.inl h))))
     ·exact .inl h
     ·exact .inr (.inr (.inr (.inr (.inr (.inr h)))))) (.inr ⟨by omega,by have h1:=(H5.out.2.2.2.2.2.2.1.files.chg0 HX.out.2.2.2.1).lt;exact h1⟩) ((Chg.refl [f] _).setCell (by simp) _) hbs
    exact⟨rfl,S9,bl,r1,r2⟩
   ·have t5:(((e9:Nat):Int) != 0)=true:=by simp;omega
    have t5':(e9 != 0)=true:=by simp;omega
    have HE:=zH he9
    clear he9
    go_wp2_with fail
    go_ret
    have hrun:=HX.out.1
    rw[if_neg HE.out] at hrun
    rw[←HH.out.2.2.2.2.2.2.2.2.1,hrun]
    have hdn:=HX.out.2.1
    rw[hrun] at hdn
    obtain⟨r1,r2⟩:=do_fsr HX.out.2.2.1 HX0.out H8.out.2 HH.out.2.2.2.2.2.2.2.2.2 H9.out.1 H9.out.2.1 H9.out.2.2.2.1 H9.out.2.2.1 (by show (afterL e9 F.log _).ring=_;unfold afterL;rw[if_neg HE.out]) hdn HX.out.2.2.1.files (fun k hk=>List.mem_append_left _ hk) (fun k hk=>List.mem_append_right _ hk) (.inl rfl) (Chg.refl [f] _) H9.out.2.2.2.2.1
    have ea:afterL e9 F.log (if t=[] then F.log else nextL F.log t.length)=F.log:=by unfold afterL;rw[if_neg HE.out]
    rw[ea] at r1
    exact⟨rfl,S9,bf,r1,r2⟩
end Go.Proofs.YtlidiclfpklliaaGreatDoor
