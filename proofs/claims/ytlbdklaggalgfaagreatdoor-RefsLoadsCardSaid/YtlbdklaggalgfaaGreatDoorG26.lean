/- FzI FzJ FzK DkI -/
import Derived.Test.YtlbdklaggalgfaaGreatDoorG25
import Derived.Test.YtlbdklaggalgfaaGreatDoorFzC
set_option linter.unusedSimpArgs false
set_option linter.unusedVariables false
set_option maxHeartbeats 4000000
namespace Go.Aq.Fy
open Go.Aq
def difT (b m:Nat) (L L':Files) (i:Nat):Puts:=((List.range i).filter fun j=>pieceT m L j≠pieceT m L' j).map fun j=>(b+j,pieceT m L' j)
theorem difT_succ (b m:Nat) (L L':Files) (i:Nat):difT b m L L' (i+1)=difT b m L L' i++if pieceT m L i=pieceT m L' i then [] else [(b+i,pieceT m L' i)]:=by
 unfold difT;rw[List.range_succ,List.filter_append,List.map_append];by_cases h:pieceT m L i=pieceT m L' i <;> simp[h]
theorem difT_all {b m:Nat} {L L':Files} (h:(tableB L).length≤m * 256) (h':(tableB L').length≤m * 256):difT b m L L' m=differB b (sectorsB m L) (sectorsB m L'):=by
 unfold difT differB;rw[sectors_len h];have e1:∀j∈List.range m,(decide (pieceT m L j≠pieceT m L' j))=decide ((sectorsB m L).getD j []≠(sectorsB m L').getD j []):=fun j hj=>by
  rw[sectors_get h (List.mem_range.1 hj),sectors_get h' (List.mem_range.1 hj)]
 rw[List.filter_congr e1];refine List.map_congr_left fun j hj=>?_
 rw[sectors_get h' (List.mem_range.1 (List.mem_filter.1 hj).1)]
theorem difT_len (b m:Nat) (L L':Files) (i:Nat):(difT b m L L' i).length≤i:=by
 unfold difT;rw[List.length_map];exact Nat.le_trans (List.length_filter_le _ _) (by simp)
theorem lin5 {i k m:Nat} (h:i+k=m) (hi:i<m):i+1+(k - 1)=m∧k - 1<k:=by omega
theorem lin6 {p i m:Nat} (h:p≤i) (hi:i<m) (hm:m≤200):(p+1) * 32≤140737488355328∧p+1≤9223372036854775807:=by omega
end Go.Aq.Fy
namespace Go.Proofs.YtlbdklaggalgfaaGreatDoor
open Go.RowKit Go.Aq Go.Aq.Fy Go.Maps
theorem piece_sees {w:World} {g m c:Nat} {L:Files} (h:Sees w 1 (.slice (some ⟨g,0,none⟩) (256 * m) c) (256 * m) (Bs (tableB L++nul (m * 256 - (tableB L).length)))) {i:Nat} (hi:i<m):Sees w 1 (pieceV g i) 256 (Bs (pieceT m L i)):=by
 obtain⟨_,_,_,e,-,h1⟩:=h.part (256 * i) 256 (by decide) (by omega);simp only[Value.slice.injEq,Option.some.injEq,Addr.mk.injEq,and_true,true_and] at e;obtain⟨⟨rfl,rfl⟩,rfl⟩:=e;rw[Nat.zero_add,←Bs_drop,←Bs_take] at h1;exact h1.recap (Nat.le_refl _)
set_option maxRecDepth 100000 in
theorem differ_ok (w:World) (Sd X:List Nat) (f d l bf:Nat) (F:FsD) (h:FsR w Sd X f d l bf F) (h1:1≤F.mt) (hn:F.files.length≤400) (hL:∀p∈F.files,p.1.length≤255∧p.2.blocks.length≤4096) (hz:∀p∈F.files,p.2.size<4294967296∧∀k∈p.2.blocks,k<65536) (hfit:(tableB F.files).length≤F.mt * 256)
  (L':Files) (hfit':(tableB L').length≤F.mt * 256) (ao:Addr) (cap g' c':Nat) (hv:Sees w 1 (.slice (some ao) F.mt cap) F.mt (pieces g' (List.range F.mt))) (hb:Sees w 1 (.slice (some ⟨g',0,none⟩) (256 * F.mt) c') (256 * F.mt) (Bs (tableB L'++nul (F.mt * 256 - (tableB L').length)))) (S:List Nat) (hS:g'∉S):
  Calls Tryz.prog 47 #[.pointer (some ⟨f,0,none⟩),.slice (some ao) F.mt cap] w fun e w'=>∃v xs,e=.returned v∧Fresh w w' 166 2 v ((diffF F L')).length xs∧PendR w' (v.ownBlock.toList++S) ((diffF F L')) xs:=by
 obtain⟨⟨c0,c1,c2,c3⟩,-⟩:=Blk.c4b h.blk;have hsm:=h.small;have hsec:=sectors_ok' w f F.mt _ _ _ h.blk h1 hsm.2.2.1 _ bf F.files h.files hn hL hz;have hom:=fun w' (c:Chg [] w w')=>home_ok w' l d F.log (h.log.chg c (by simp)) (by have:=h.small;omega)
 have hgl:g'<w.heap.size:=hb.lt (by decide) g' (by simp[eyes];omega);have hdif:=difT_all (b:=homeL F.log+1) hfit hfit';obtain⟨m,hm⟩:∃m,F.mt=m:=⟨_,rfl⟩;have hh4:homeL F.log≤4096:=by have:=h.small;unfold homeL;omega
 obtain⟨b,hb1⟩:∃b,homeL F.log=b:=⟨_,rfl⟩;rw[hm] at hsec hfit hfit' hv hb h1 hdif c2;rw[hb1] at hom hdif hh4;have HH:=zH (And.intro hfit (And.intro hfit' (And.intro hv (And.intro hb (And.intro hS (And.intro hgl (And.intro (show m≤200 by omega) (And.intro h1 (And.intro hh4 (show (diffF F L')=difT (b+1) m F.files L' m by rw[hdif];unfold diffF;rw[hm,hb1]))))))))));rw[hm];have hfl:=zH h.blk.lt;generalize F.files=L at *;clear h h1 hn hL hz hfit hfit' hv hb hsm hgl hdif hm hb1 hS hh4 c0;go_enter Tryz.func47,Tryz.ntmps47;go_wp2_with fail;refine hsec.mono ?_;rintro e w1 ⟨cw,(⟨hno,-⟩ | ⟨-,ao1,cap1,g,cg,rfl,hO1,hao,hg,hB1⟩)⟩;·have:=HH.out.1;omega
 replace c1:=cw.cell_some c1 (by simp);have H1:=zD cw hO1 hao hg hB1;clear hsec hO1 hao hg hB1 c2 c3;go_wp2_with fail;go_loopg [5,6,7,15] m (fun k (v5 v6 v7 v15:Value) wr=>∃(i p:Nat) (xs:List Value),v15=.int .i64 i∧wr.cell? ⟨f,1,none⟩=some (.pointer (some ⟨l,0,none⟩))∧Hid (i+k=m∧(difT (b+1) m L L' i).length=p∧Fresh w1 wr 166 2 v5 p xs∧Chg [] w1 wr∧Hid True∧PendR wr (v5.ownBlock.toList++S) (difT (b+1) m L L' i) xs));case atStart=>exact⟨0,0,[],rfl,c1,Nat.zero_add _,rfl,Fresh.nil _ _ _,Chg.refl _ _,trivial,.nil⟩
 case round=>
  clear c1;obtain⟨i,p,xs,rfl,c1,HI⟩:=hrel;by_cases hi:i<m
  ·have t0:decide ((i:Int)<(m:Int))=true:=by simp;omega
   have t0':decide (i<m)=true:=by simp;omega
   obtain⟨hik,hp,hF,cy,-,hP⟩:=HI.out;obtain⟨a5,q5,rfl,-⟩:=hF.shape;have hm2:=HH.out.2.2.2.2.2.2.1;obtain⟨gx,ox,cx,e,-,hcx⟩:=(H1.out.2.1.sees.chg0 cy).at1 (by omega);cases e;obtain⟨gy,oy,cyy,e,-,hcy⟩:=(HH.out.2.2.1.chg0 (H1.out.1.nil cy)).at1 (by omega);cases e;have z0:=hcx i hi;have z1:=hcy i hi;have hpc:∀g,(pieces g (List.range m))[i]?=some (.slice (some ⟨g,256 * i,none⟩) 256 256):=fun g=>by simp[pieces,pieceV,hi]
   rw[hpc] at z0 z1;have hs1:=piece_sees (H1.out.2.2.2.2.chg0 cy) hi;have hs2:=piece_sees (HH.out.2.2.2.1.chg0 (H1.out.1.nil cy)) hi;unfold pieceV at hs1 hs2;obtain⟨lo,hlo⟩:∃lo,256 * i=lo:=⟨_,rfl⟩;rw[hlo] at z0 z1 hs1 hs2;have heq:=equal_any wr _ _ 256 256 _ _ hs1 hs2;have e2:wrap64 ((i:Int)+1)=((i+1:Nat):Int):=by unfold wrap64;omega
   have e2w:=wIq e2;have e3:wrap64 ((b:Int)+1)=(b:Int)+1:=by have:=HH.out.2.2.2.2.2.2.2.2.1;unfold wrap64;omega
   have e3w:=wIq e3;have e4:wrap64 ((b:Int)+1+(i:Int))=(b:Int)+1+(i:Int):=by have:=HH.out.2.2.2.2.2.2.2.2.1;unfold wrap64;omega
   have e4w:=wIq e4;have hl6:=lin6 (hp▸difT_len (b+1) m L L' i) hi hm2;have HR:=zF (lin5 hik hi) hp hF cy hP hs2 hlo;have hh:=hom wr (H1.out.1.nil cy);obtain⟨q,hq⟩:∃q,decide (pieceT m L i=pieceT m L' i)=q:=⟨_,rfl⟩;rw[hq] at heq;have HQ:=zH hq;clear hik hp hF cy hP hcx hcy hpc hs1 hs2 hlo hq hm2;cases q with
   | true=>
    clear hl6 e3 e3w e4 e4w;go_wp2_with fail;refine heq.mono ?_;rintro e w2 ⟨rfl,hw2⟩;obtain rfl:wr=w2:=hw2.symm;go_wp2_with fail;go_roundg (gk - 1);case measure=>exact HR.out.1.2
    case rel=>
     have e5:difT (b+1) m L L' (i+1)=difT (b+1) m L L' i:=by rw[difT_succ,if_pos (of_decide_eq_true HQ.out),List.append_nil]
     exact⟨i+1,p,xs,by simp,c1,HR.out.1.1,by rw[e5];exact HR.out.2.1,HR.out.2.2.1,HR.out.2.2.2.1,trivial,by rw[e5];exact HR.out.2.2.2.2.1⟩
   | false=>
    go_wp2_with fail;refine heq.mono ?_;rintro e w2 ⟨rfl,hw2⟩;obtain rfl:wr=w2:=hw2.symm;clear heq;go_upto_region 6 with (fail);obtain⟨W0,hW0⟩:∃W0,wr.drew=W0:=⟨_,rfl⟩;have cd:Chg [] wr W0:=by rw[←hW0];exact (Chg.refl _ _).drew
    refine wp_region_U (Value.slice a5 p q5).ownBlock.toList (fun _=>false) (by kernel_rfl) ?_;rw[hW0];clear hW0;have C0:Chg (Value.slice a5 p q5).ownBlock.toList W0 W0:=Chg.refl _ _;have hfo:f∉(Value.slice a5 p q5).ownBlock.toList:=fun hh=>by have h1:=HR.out.2.2.1.new f hh;have h2:=hfl.out;have h3:=H1.out.1.size;omega
    have hgyo:gy∉(Value.slice a5 p q5).ownBlock.toList:=fun hh=>by have h1:=HR.out.2.2.1.new gy hh;have h2:gy<w.heap.size:=(HH.out.2.2.1.lt (by decide)) gy (by simp[eyes];omega);have h3:=H1.out.1.size;omega
    have c1':=cd.cell_some c1 (by simp);have z1':=cd.cell_some z1 (by simp);refine tU 0 (.slice a5 p q5) C0 (fun w4 c4=>?_) ?_;·go_simp
    refine yG ?_;refine tU 1 (.pointer (some ⟨f,0,none⟩)) C0 (fun w4 c4=>?_) ?_;·go_simp
    refine yG ?_;refine tU 2 (.pointer (some ⟨f,0,none⟩)) C0 (fun w4 c4=>?_) ?_;·go_simp
    refine yG ?_;refine tU 3 (.pointer (some ⟨f,1,none⟩)) C0 (fun w4 c4=>?_) ?_;·go_simp
    refine yG ?_;refine tU 4 (.pointer (some ⟨l,0,none⟩)) C0 (fun w4 c4=>?_) ?_
    ·have z:=c4.cell_some c1' hfo;go_simp
    refine yG ?_;refine tU 7 (.int .i64 i) C0 (fun w4 c4=>?_) ?_;·go_simp
    refine yG ?_;refine tU 9 (.slice (some ⟨gy,oy,none⟩) m cap) C0 (fun w4 c4=>?_) ?_;·go_simp
    refine yG ?_;refine tU 10 (.int .i64 i) C0 (fun w4 c4=>?_) ?_;·go_simp
    refine yG ?_;refine tU 11 (.pointer (some ⟨gy,oy+i,none⟩)) C0 (fun w4 c4=>?_) ?_;·go_simp
    refine yG ?_;refine tU 12 (.slice (some ⟨g',lo,none⟩) 256 256) C0 (fun w4 c4=>?_) ?_
    ·have z:=c4.cell_some z1' hgyo;go_simp
    refine yG ?_;refine oU 5 ?_;go_simp;refine (hom W0 ((H1.out.1.nil HR.out.2.2.2.1).nil cd)).mono ?_;rintro e w1' ⟨rfl,hw1'⟩;obtain rfl:W0=w1':=hw1'.symm;refine⟨C0,?_⟩;refine yG ?_;refine tU 6 (.int .i64 ((b+1:Nat):Int)) C0 (fun w4 c4=>?_) ?_;·go_simp
    refine yG ?_;refine tU 8 (.int .i64 ((b+1+i:Nat):Int)) C0 (fun w4 c4=>?_) ?_;·go_simp
    refine yG ?_;refine tU 13 (.agg #[.int .i64 ((b+1+i:Nat):Int),.slice (some ⟨g',lo,none⟩) 256 256]) C0 (fun w4 c4=>?_) ?_;·go_simp
    refine yG ?_;refine oU 14 ?_;go_simp;have hca:Chg [] W0 (W0.alloc (.cells #[.int .i64 ((b+1+i:Nat):Int),.slice (some ⟨g',lo,none⟩) 256 256] 166)):=(Chg.refl [] _).alloc _;have hbx':Blk (W0.alloc (.cells #[.int .i64 ((b+1+i:Nat):Int),.slice (some ⟨g',lo,none⟩) 256 256] 166)) W0.heap.size #[.int .i64 ((b+1+i:Nat):Int),.slice (some ⟨g',lo,none⟩) 256 256] 166:=Blk.new _ _ _;have hsrc:Sees (W0.alloc (.cells #[.int .i64 ((b+1+i:Nat):Int),.slice (some ⟨g',lo,none⟩) 256 256] 166)) 2 (.slice (some ⟨W0.heap.size,0,none⟩) 1 1) 1 [.int .i64 ((b+1+i:Nat):Int),.slice (some ⟨g',lo,none⟩) 256 256]:=Sees.blk hbx';refine⟨hca.toS,?_⟩;refine yG ?_;have cA:Chg [] wr (W0.alloc (.cells #[.int .i64 ((b+1+i:Nat):Int),.slice (some ⟨g',lo,none⟩) 256 256] 166)):=cd.nil hca;have hFa:=HR.out.2.2.1.to cA;refine oU 15 ?_;refine wp_app _ _ 108 rfl sl_put hFa.own rfl hsrc rfl (by intro u hu;simp at hu;rcases hu with rfl | rfl <;> rfl) hl6.1 hl6.2 ?_;intro v8 w8 ho8 c8 hn8;have hF8:=hFa.app ho8 c8 hn8;have cW8:=hca.toS.tr c8;refine⟨cW8,?_⟩;refine yG ?_;refine tU 16 (v8) cW8 (fun w4 c4=>?_) ?_;·go_simp
    refine yG ?_;refine wpAnyU_done (by kernel_rfl) ?_ _;have c1n:=cW8.cell_some c1' hfo;have HZ:=zC hF8 cA c8 hn8;clear hF8 c8 hn8 ho8 cW8 hFa cA hsrc hbx' hca C0 cd c1' z1' hfo hgyo e3 e3w e4 e4w hl6 z0 z1 c1;go_wp2_with fail;go_roundg (gk - 1);case measure=>exact HR.out.1.2
    case rel=>
     obtain⟨hF8,cA,c8,hn8⟩:=HZ.out;have e5:difT (b+1) m L L' (i+1)=difT (b+1) m L L' i++[(b+1+i,pieceT m L' i)]:=by rw[difT_succ,if_neg (of_decide_eq_false HQ.out)]
     have hw1:=(H1.out.1.nil HR.out.2.2.1.chg).size;have hs3:=cA.size;have g69:∀t∈(Value.slice a5 p q5).ownBlock.toList,g'≠t:=fun t ht e=>by have h1:=HR.out.2.2.1.new t ht;have h2:=HH.out.2.2.2.2.2.1;have h3:=H1.out.1.size;omega
     have hu:Upd ((Value.slice a5 p q5).ownBlock.toList++S) (v8.ownBlock.toList++S) wr w8:=⟨(cA.toS.tr c8).mono (fun k hk=>.inl (by simp[hk])),fun k hk=>by
      rcases List.mem_append.1 hk with hk | hk
      ·rcases hn8 k hk with h1 | h1
       ·exact .inl (by simp[h1])
       ·exact .inr (Nat.le_trans hs3 h1)
      ·exact .inl (by simp[hk])⟩
     have hsv:SecV w8 (v8.ownBlock.toList++S) (.slice (some ⟨g',lo,none⟩) 256 256) (pieceT m L' i):=by
      have hey:eyes (.slice (some ⟨g',lo,none⟩) 256 256)=[g']:=rfl;refine⟨(HR.out.2.2.2.2.2.1.chg0 cA).chg c8 (fun t ht ht'=>?_),fun t ht ht'=>?_⟩;·rw[hey,List.mem_singleton] at ht;exact g69 t ht' ht.symm
      ·rw[hey,List.mem_singleton] at ht;subst ht;rcases List.mem_append.1 ht' with h2 | h2
       ·rcases hn8 t h2 with h3 | h3
        ·exact g69 t h3 rfl
        ·exact absurd (Nat.le_trans (Nat.le_trans hw1 hs3) h3) (Nat.not_le.2 HH.out.2.2.2.2.2.1)
       ·exact HH.out.2.2.2.2.1 h2
     refine⟨i+1,p+1,xs++[.int .i64 ((b+1+i:Nat):Int),.slice (some ⟨g',lo,none⟩) 256 256],by simp,c1n,HR.out.1.1,by rw[e5,List.length_append,HR.out.2.1];rfl,hF8,?_,trivial,?_⟩;·exact hF8.chg
     ·rw[e5];exact PendR.snoc hsv (HR.out.2.2.2.2.1.upd hu)
  ·have t0:decide ((i:Int)<(m:Int))=false:=by simp;omega
   have t0':decide (i<m)=false:=by simp;omega
   have him:i=m:=by have:=HI.out.1;omega
   have HQ:=zH him;clear him hi;obtain⟨a5,q5,rfl,-⟩:=HI.out.2.2.1.shape;go_wp2_with fail;go_ret;obtain⟨hik,hp,hF,cy,-,hP⟩:=HI.out;refine⟨.slice a5 p q5,xs,rfl,?_,?_⟩
   ·have e:=HQ.out;subst e;rw[HH.out.2.2.2.2.2.2.2.2.2,hp];exact hF.back H1.out.1
   ·have e:=HQ.out;subst e;rw[HH.out.2.2.2.2.2.2.2.2.2];exact hP
set_option maxRecDepth 100000 in
theorem fwrite_ok (w:World) (S:List Nat) (f mt bf l p:Nat) (D:DiskD) (L:LogD) (hF:Blk w f #[.pointer (some ⟨p,0,none⟩),.pointer (some ⟨l,0,none⟩),.int .i64 mt,.map (some bf)] 95) (hf:f∉S∧f≠l) (h:DiskR w S p D) (hL:LogR w l p L) (hl:l∉S) (hd:D.down=false)
  (B:Puts) (hp:D.pend.length+B.length≤500000) (hk:∀q∈B,q.1<D.n) (v:Value) (xs:List Value) (hs:Sees w 2 v B.length xs) (hx:PendR w S B xs) (ho:Disj (eyes v) S)
  (h0:0<L.ring) (hr:L.ring+4≤D.n) (hpos:L.pos<65536) (hq:L.seq<281474976710655)
  (P:Puts) (n:Nat) (hn:P.length=n) (v2:Value) (xs2:List Value) (hv2:Sees w 2 v2 n xs2) (hx2:PendR w S P xs2) (ho2:Disj (eyes v2) S) (hb:n≤10000) (hh:∀q∈P,atHome D L q.1=true) (hnd:(P.map (·.1)).Nodup) (hneed:need n≤L.ring):
  Calls Tryz.prog 50 #[.pointer (some ⟨f,0,none⟩),v,v2] w (CommitEnd w S l p (runP D ((if B=[] then [] else [B])++commitP L P)) L (if P=[] then L else nextL L n)):=by
 obtain⟨m,hm⟩:∃m,B.length=m:=⟨_,rfl⟩;obtain⟨RR,hRR⟩:∃RR,runP D ((if B=[] then [] else [B])++commitP L P)=RR:=⟨_,rfl⟩;obtain⟨LN,hLN⟩:∃LN,(if P=[] then L else nextL L n)=LN:=⟨_,rfl⟩;rw[hRR,hLN];have HR2:=zA hRR hLN;clear hRR hLN;rw[hm] at hs hp;obtain⟨ao,cap,rfl,-⟩:=hs.shape;obtain⟨ao2,cap2,rfl,-⟩:=hv2.shape;have hfl:=hF.lt;have hll:=Blk.lt hL;obtain⟨⟨c0,c1,-,-⟩,-⟩:=Blk.c4b hF;have HM:=zH hm;have HS:=zB hs hx ho;have HK:=zH hk;have HB:=zH hp;have HH:=zA h hd;have HL:=zH (And.intro hL (And.intro hl (And.intro h0 (And.intro hr (And.intro hpos (And.intro hq (And.intro hn (And.intro hv2 (And.intro hx2 (And.intro ho2 (And.intro hb (And.intro hh (And.intro hnd (And.intro hneed (And.intro hf (And.intro hfl (And.intro hll hF)))))))))))))))));clear hm hs hx ho hk hp h hd hL hl h0 hr hpos hq hn hv2 hx2 ho2 hb hh hnd hneed hf hfl hll hF;have hoff:∀(wr:World) (S':List Nat),Upd S S' w wr→f∉S'∧l∉S':=fun wr S' hU=>by
  refine⟨fun hh=>?_,fun hh=>?_⟩
  ·rcases hU.new f hh with h1 | h1
   ·exact HL.out.2.2.2.2.2.2.2.2.2.2.2.2.2.2.1.1 h1
   ·have:=HL.out.2.2.2.2.2.2.2.2.2.2.2.2.2.2.2.1;omega
  ·rcases hU.new l hh with h1 | h1
   ·exact HL.out.2.1 h1
   ·have:=HL.out.2.2.2.2.2.2.2.2.2.2.2.2.2.2.2.2.1;omega
 have HO:=zH hoff;clear hoff;have fin:∀(wr:World) (S':List Nat) (Di:DiskD),DiskR wr S' p Di→Upd S S' w wr→Di.down=false→Di.n=D.n→Di.pend.length≤600000→RR=runP Di (commitP L P)→
   Calls Tryz.prog 117 #[.pointer (some ⟨l,0,none⟩),.slice ao2 n cap2] wr (fun e w'=>CommitEnd w S l p RR L LN e w'):=by
  intro wr S' Di hR hU hdn hDn hpn he;obtain⟨hL,hl,h0,hr,hpos,hq,hn,hv2,hx2,ho2,hb,hh,hnd,hneed,-,-,-,-⟩:=HL.out;have hc:=commit_ok wr S' l p Di L hR (hL.chg hU.chg hl) (HO.out _ _ hU).2 hdn hpn h0 (by rw[hDn];exact hr) hpos hq P n hn (.slice ao2 n cap2) xs2 (hv2.chg hU.chg ho2) (hx2.upd hU) (ho2.upd hU (hv2.lt (by decide))) hb (fun q hq=>by have:=hh q hq;unfold atHome at this ⊢;rw[hDn];exact this) hnd hneed;rw[HR2.out.2] at hc;rw[he];refine hc.mono ?_;rintro e w' ⟨rfl,S2,k1,k2,k3,k4⟩;refine⟨rfl,S2,k1,k2,k3,?_⟩;refine Upd.trans ⟨hU.chg.mono (fun k hk=>.inl (by simp[hk])),fun k hk=>?_⟩ k4;rcases List.mem_cons.1 hk with rfl | hk
  ·simp
  ·rcases hU.new k hk with h1 | h1
   ·simp[h1]
   ·exact .inr h1
 have FIN:=zH fin;clear fin;go_enter Tryz.func50,Tryz.ntmps50;go_wp2_with fail;go_loopg [8,9,13] m (fun k (v8 v9 v13:Value) wr=>∃(i:Nat) (S':List Nat) (Di:DiskD),v13=.int .i64 (i:Int)∧wr.cell? ⟨f,0,none⟩=some (.pointer (some ⟨p,0,none⟩))∧wr.cell? ⟨f,1,none⟩=some (.pointer (some ⟨l,0,none⟩))∧Hid (i≤m∧k=m - i∧DiskR wr S' p Di∧Upd S S' w wr∧Di.down=false∧Di.n=D.n∧Di.pend.length≤D.pend.length+i∧eachD D B=eachD Di (B.drop i)∧(i=0→Di=D)));case atStart=>exact⟨0,S,D,rfl,c0,c1,Nat.zero_le _,(Nat.sub_zero _).symm,HH.out.1,Upd.refl _ _,HH.out.2,rfl,Nat.le_refl _,rfl,fun _=>rfl⟩
 case round=>
  clear c0 c1;obtain⟨i,S',Di,rfl,c0,c1,HI⟩:=hrel;by_cases him:i<m
  ·obtain⟨hi,hk1,hR,hU,hI1,hI2,hI3,hI4,-⟩:=HI.out;have t1:decide ((i:Int)<(m:Int))=true:=decide_eq_true (by omega);have t1':decide (i<m)=true:=decide_eq_true him;have him':i<B.length:=by rw[HM.out];exact him
   have hpd:PendR wr S' B xs:=HS.out.2.1.upd hU;have hsw:Sees wr 2 (.slice ao m cap) m xs:=HS.out.1.chg hU.chg HS.out.2.2;obtain⟨g',off',cap',a5,q5,e1,hmc,x0,x1,hsv⟩:=hpd.cells hsw HM.out him';injection e1 with e1 _ e2;subst e1 e2;have hkn:(B[i]).1<Di.n:=by rw[hI2];exact HK.out _ (List.getElem_mem him')
   have hdrop:B.drop i=B[i]::B.drop (i+1):=List.drop_eq_getElem_cons him';generalize B[i]=pt at *;obtain⟨pk,pb⟩:=pt;simp only at x0 hsv hkn;obtain⟨wA,hwA⟩:∃wA,wr.alloc (.cells #[.int .i64 pk,.slice a5 256 q5] 166)=wA:=⟨_,rfl⟩;obtain⟨K,hK⟩:∃K,wr.heap.size=K:=⟨_,rfl⟩;have hca:Chg [] wr wA:=by rw[←hwA];exact (Chg.refl [] wr).alloc _
   have hbx:Blk wA K #[.int .i64 pk,.slice a5 256 q5] 166:=by rw[←hwA,←hK];exact Blk.new _ _ _
   obtain⟨⟨z0,z1⟩,-⟩:=hbx.c2;have hwr:=fun w' (c:Chg [] wA w')=>write_ok w' S' p Di pk pb (.slice a5 256 q5) ((hR.chg hca).chg c) hI1 hkn (by have:=HB.out;omega) ((hsv.chg hca (by simp)).chg c (by simp))
   have hwd:=writeD_put hI1 hkn hsv.len;have hstep:eachD Di (B.drop i)=if (putD Di pk pb).2=0 then eachD (putD Di pk pb).1 (B.drop (i+1)) else putD Di pk pb:=by
    rw[hdrop];simp only[eachD,hwd]
   have hcode:=putD_code Di pk pb;have hpn:=putD_n Di pk pb;have hpp:=putD_pend Di pk pb;have e2:wrap64 ((i:Int)+1)=((i+1:Nat):Int):=by have:=HB.out;unfold wrap64;omega
   have e2w:=wIq e2;have hKS:K∉S':=fun hh=>by have:=hR.lt K hh;omega
   have hoo:=HO.out _ _ hU;have HQ:=zH (And.intro hk1 (And.intro hstep (And.intro (hU.nil hca) (And.intro hpn (And.intro hpp (And.intro hI1 (And.intro hI2 (And.intro hI3 (And.intro hI4 (And.intro hoo (And.intro hKS him)))))))))));clear hk1 hstep hpn hpp hpd hsw hmc hsv hkn hdrop hwd hR hU hI1 hI2 hI3 hI4 hoo hKS hi him' hbx;generalize putD Di pk pb=R at *;obtain⟨D2,e2'⟩:=R;simp only at hcode hwr;go_upto_region 4 with (fail);replace c0:=hca.cell_some c0 (by simp);replace c1:=hca.cell_some c1 (by simp);clear hwA hK hca x0 x1;obtain⟨W0,hW0⟩:∃W0,wA.drew=W0:=⟨_,rfl⟩;have cd:Chg [] wA W0:=by rw[←hW0];exact (Chg.refl _ _).drew
   refine wp_region_U S' (fun _=>false) (by kernel_rfl) ?_;rw[hW0];clear hW0;have C0:Chg S' W0 W0:=Chg.refl _ _;have hfo:=HQ.out.2.2.2.2.2.2.2.2.2.1.1;have hKS:=HQ.out.2.2.2.2.2.2.2.2.2.2.1;have c0':=cd.cell_some c0 (by simp);have c1':=cd.cell_some c1 (by simp);have z0':=cd.cell_some z0 (by simp);have z1':=cd.cell_some z1 (by simp);clear c0 c1 z0 z1;refine tU 0 (.pointer (some ⟨f,0,none⟩)) C0 (fun w4 c4=>?_) ?_;·go_simp
   refine yG ?_;refine tU 1 (.pointer (some ⟨f,0,none⟩)) C0 (fun w4 c4=>?_) ?_;·go_simp
   refine yG ?_;refine tU 2 (.pointer (some ⟨f,0,none⟩)) C0 (fun w4 c4=>?_) ?_;·go_simp
   refine yG ?_;refine tU 3 (.pointer (some ⟨p,0,none⟩)) C0 (fun w4 c4=>?_) ?_
   ·have z:=c4.cell_some c0' hfo;go_simp
   refine yG ?_;refine tU 4 (.pointer (some ⟨K,0,none⟩)) C0 (fun w4 c4=>?_) ?_;·go_simp
   refine yG ?_;refine tU 5 (.int .i64 pk) C0 (fun w4 c4=>?_) ?_
   ·have z:=c4.cell_some z0' hKS;go_simp
   refine yG ?_;refine tU 6 (.pointer (some ⟨K,1,none⟩)) C0 (fun w4 c4=>?_) ?_;·go_simp
   refine yG ?_;refine tU 7 (.slice a5 256 q5) C0 (fun w4 c4=>?_) ?_
   ·have z:=c4.cell_some z1' hKS;go_simp
   refine yG ?_;refine oU 8 ?_;go_simp;refine (hwr W0 cd).mono ?_;rintro e w2 ⟨rfl,S2,hR2,hU2⟩;refine⟨hU2.chg,?_⟩;refine yG ?_;clear hwr;refine tU 9 (.int .i64 e2') hU2.chg (fun w4 c4=>?_) ?_;·go_simp
   refine yG ?_;refine wpAnyU_done (by kernel_rfl) ?_ _;have c0:=hU2.chg.cell_some c0' hfo;have c1:=hU2.chg.cell_some c1' hfo;have HU:=zA hR2 ((HQ.out.2.2.1.nil cd).trans hU2);clear hR2 hU2 C0 c0' c1' z0' z1' cd hfo hKS;rcases hcode with ⟨rfl,hdn⟩ | rfl
   ·have HD2:=zH hdn;clear hdn;go_wp2_with fail;go_roundg (gk - 1);case measure=>have h1:=HQ.out.1;have h2:=HQ.out.2.2.2.2.2.2.2.2.2.2.2;omega
    case rel=>
     obtain⟨q1,q2,q3,q4,q5,q6,q7,q8,q9,-,-,q10⟩:=HQ.out;refine⟨i+1,S2,D2,by simp,c0,c1,q10,by omega,HU.out.1,HU.out.2,by rw[HD2.out];exact q6,by rw[q4];exact q7,by omega,by rw[q9,q2];simp,fun h=>by omega⟩
   ·go_wp2_with fail;go_ret;obtain⟨q1,q2,q3,q4,q5,q6,q7,q8,q9,-,-,q10⟩:=HQ.out;have he:eachD D B=(D2,12):=by rw[q9,q2];simp
    have hw:writesD D B=(D2,12):=by unfold writesD;rw[he];simp
    have hB:B≠[]:=fun h=>by rw[h] at HM;have:=HM.out;simp at this;omega
    have hrun:RR=(D2,12):=by
     rw[←HR2.out.1,if_neg hB,List.singleton_append,runP_cons,hw];simp
    rw[hrun];refine⟨rfl,S2,HU.out.1,?_,(HO.out _ _ HU.out.2).2,?_⟩
    ·show LogR w2 l p (afterL 12 L _);exact HL.out.1.chg HU.out.2.chg HL.out.2.1
    ·refine⟨HU.out.2.chg.mono (fun k hk=>.inl (by simp[hk])),fun k hk=>?_⟩;rcases List.mem_cons.1 hk with rfl | hk
     ·simp
     ·rcases HU.out.2.new k hk with h1 | h1
      ·simp[h1]
      ·exact .inr h1
  ·obtain⟨hi,hk1,hR,hU,hI1,hI2,hI3,hI4,hI5⟩:=HI.out;have t1:decide ((i:Int)<(m:Int))=false:=decide_eq_false (by omega);have t1':decide (i<m)=false:=decide_eq_false him;have e:i=m:=by omega
   subst e;have he:eachD D B=(Di,0):=by rw[hI4,List.drop_of_length_le (by rw[HM.out];exact Nat.le_refl _)];rfl
   by_cases hi0:i=0
   ·have hB:B=[]:=List.eq_nil_of_length_eq_zero (by rw[HM.out];exact hi0);have hDi:=hI5 hi0;have hfin:=FIN.out _ _ _ hR hU hI1 hI2 (by have:=HB.out;omega) (by rw[←HR2.out.1,if_pos hB,List.nil_append,hDi]);subst hi0;clear hi hk1 hR hU hI1 hI2 hI3 hI4 hI5 him he hB hDi HI;go_wp2_with fail;refine hfin.mono ?_;rintro e w3 hE;have hE':=hE;obtain⟨rfl,-⟩:=hE';have HE:=zH hE;clear hE hfin;go_wp2_with fail;go_ret;exact HE.out
   ·have t2:decide ((0:Int)<(i:Int))=true:=decide_eq_true (by omega);have t2':decide (0<i)=true:=decide_eq_true (by omega);have hB:B≠[]:=fun h=>by rw[h] at HM;have:=HM.out;simp at this;omega
    have hfl:=flush_ok wr S' p Di hR hI1 (by have:=HB.out;omega);have hw:writesD D B=((flushD Di).1,0):=by
     unfold writesD;rw[he];simp only[if_true];unfold flushD;rw[hI1];rfl
    have hrun:RR=runP (flushD Di).1 (commitP L P):=by
     rw[←HR2.out.1,if_neg hB,List.singleton_append,runP_cons,hw];simp
    have hfd:(flushD Di).1.down=false∧(flushD Di).1.n=Di.n∧(flushD Di).1.pend=[]:=by unfold flushD;simp[hI1]
    have HW:=zC hrun hfd hU hI2;have hfo:=(HO.out _ _ hU).1;clear hi hk1 hR hU hI1 hI2 hI3 hI4 hI5 him he hB hi0 hw hrun hfd HI;go_wp2_with fail;refine hfl.mono ?_;rintro e w2 ⟨rfl,S2,hR2,hU2⟩;clear hfl;have c1:=hU2.chg.cell_some c1 hfo;have hfin:=FIN.out _ _ _ hR2 (HW.out.2.2.1.trans hU2) HW.out.2.1.1 (by rw[HW.out.2.1.2.1];exact HW.out.2.2.2) (by rw[HW.out.2.1.2.2];simp) HW.out.1;clear hR2 hU2 hfo;go_wp2_with fail;refine hfin.mono ?_;rintro e w3 hE;have hE':=hE;obtain⟨rfl,-⟩:=hE';have HE:=zH hE;clear hE hfin;go_wp2_with fail;go_ret;exact HE.out
end Go.Proofs.YtlbdklaggalgfaaGreatDoor
namespace Go.Aq.Fy
open Go.Aq
theorem doF_err1 {F:FsD} {l:List ChangeD} {W:WorkD} {e:Nat} (h:allW F ⟨F.files,[]⟩ l=(W,e)) (he:e≠0):doF F l=(F,e):=by
 have:prepF F l=(e,[],[],F.log):=by unfold prepF;simp only[h];rw[if_pos he]
 unfold doF;simp only[this];rw[if_pos he]
theorem doF_err2 {F:FsD} {l:List ChangeD} {W:WorkD} (h:allW F ⟨F.files,[]⟩ l=(W,0)) (he:(freeF F).length<needW W.fresh):doF F l=(F,8):=by
 have:prepF F l=(8,[],[],F.log):=by unfold prepF;simp only[h];rw[if_neg (by simp),if_pos he]
 unfold doF;simp only[this];rw[if_pos (by decide)]
theorem doF_err3 {F:FsD} {l:List ChangeD} {W:WorkD} (h:allW F ⟨F.files,[]⟩ l=(W,0)) (h2:needW W.fresh≤(freeF F).length) (he:F.mt * 256<(tableB (placeF W.fresh (freeF F) W.files)).length):doF F l=(F,8):=by
 have:prepF F l=(8,[],[],F.log):=by unfold prepF;simp only[h];rw[if_neg (by simp),if_neg (by omega),if_pos he]
 unfold doF;simp only[this];rw[if_pos (by decide)]
theorem doF_err4 {F:FsD} {l:List ChangeD} {W:WorkD} (h:allW F ⟨F.files,[]⟩ l=(W,0)) (h2:needW W.fresh≤(freeF F).length) (h3:(tableB (placeF W.fresh (freeF F) W.files)).length≤F.mt * 256) (he:F.log.ring<need (diffF F (placeF W.fresh (freeF F) W.files)).length):doF F l=(F,9):=by
 have:prepF F l=(9,[],[],F.log):=by unfold prepF;simp only[h];unfold diffF at he;rw[if_neg (by simp),if_neg (by omega),if_neg (by omega),if_pos he]
 unfold doF;simp only[this];rw[if_pos (by decide)]
theorem doF_run {F:FsD} {l:List ChangeD} {W:WorkD} {fs:Files} {bl t:Puts} {R:DiskD×Nat} (h:allW F ⟨F.files,[]⟩ l=(W,0)) (h2:needW W.fresh≤(freeF F).length) (hfs:placeF W.fresh (freeF F) W.files=fs) (h3:(tableB fs).length≤F.mt * 256) (ht:diffF F fs=t) (h4:need t.length≤F.log.ring)
  (hbl:placeP (firstF F) W.fresh (freeF F)=bl) (hR:runP F.disk ((if bl=[] then [] else [bl])++commitP F.log t)=R):doF F l=if R.2=0 then (⟨R.1,if t=[] then F.log else nextL F.log t.length,F.mt,fs⟩,0) else ({ F with disk:=R.1 },R.2):=by
 have:prepF F l=(0,(if bl=[] then [] else [bl])++commitP F.log t,fs,if t=[] then F.log else nextL F.log t.length):=by
  subst hfs ht hbl;unfold prepF;simp only[h];rw[if_neg (by simp),if_neg (by omega),if_neg (by omega),if_neg (by unfold diffF at h4;omega)];rfl
 unfold doF;simp only[this,hR];rw[if_neg (by simp)]
theorem doF_n {q:Nat} {F:FsD} (h:FInv q F) (hq:q<2^47) (l:List ChangeD):(doF F l).1.disk.n=F.disk.n:=by
 rcases do_any h hq l with ⟨e,h1,-⟩ | ⟨-,bl,fs,-,-,-,(⟨D,h1,h2,-⟩ | ⟨D,h1,h2,-⟩)⟩
 ·rw[h1]
 ·rw[h1];exact h2
 ·rw[h1];exact h2
theorem nameOk_len {s:Nm} (h:nameOk s=true):s.length≤80:=by
 unfold nameOk at h;simp only[Bool.and_eq_true,decide_eq_true_eq] at h;exact h.2
theorem FilesOk.facts {all:Nat} {L:Files} (h:FilesOk all L) (ha:all≤4096):(∀p∈L,p.1.length≤255∧p.2.blocks.length≤4096)∧(∀p∈L,p.2.size<4294967296∧∀k∈p.2.blocks,k<65536)∧(∀p∈L,∀k∈p.2.blocks,k<all):=by
 refine⟨fun p hp=>?_,fun p hp=>?_,fun p hp k hk=>h.bound k (List.mem_flatMap.2 ⟨p,hp,hk⟩)⟩
 ·have h1:=nameOk_len (h.name p hp);obtain⟨h2,h3⟩:=h.size p hp;rw[h3];unfold cnt;omega
 ·have h1:=(h.size p hp).1;exact⟨by omega,fun k hk=>by have:=h.bound k (List.mem_flatMap.2 ⟨p,hp,hk⟩);omega⟩
theorem diff_at {q:Nat} {F:FsD} (h:FInv q F) (fs:Files):((diffF F fs).map (·.1)).Nodup∧(diffF F fs).length≤200∧∀p∈diffF F fs,atHome F.disk F.log p.1=true:=by
 refine⟨differ_nodup _ _ _,?_,fun p hp=>?_⟩
 ·have h1:=differ_len (homeL F.log+1) (sectorsB F.mt F.files) (sectorsB F.mt fs);rw[sectors_len h.tlen] at h1;have h2:=h.geo.mt;unfold diffF;omega
 ·obtain⟨i,h1,-,rfl⟩:=differ_mem.1 hp;rw[sectors_len h.tlen] at h1;have h2:=h.geo.first;unfold atHome;simp only[Bool.and_eq_true,decide_eq_true_eq];omega
theorem free_len (F:FsD):(freeF F).length≤allF F:=by
 unfold freeF;exact Nat.le_trans (List.length_filter_le _ _) (by simp)
theorem len_le_of_sub {α:Type} [DecidableEq α]:∀{l m:List α},l.Nodup→(∀x∈l,x∈m)→l.length≤m.length
 | [],m,_,_=>Nat.zero_le _
 | a::l,m,hn,hs=>by
  obtain⟨h1,h2⟩:=List.pairwise_cons.1 hn;have ha:=hs a (.head _);have h3:∀x∈l,x∈m.erase a:=fun x hx=>(List.mem_erase_of_ne (fun e=>h1 x hx e.symm)).2 (hs x (.tail _ hx))
  have h4:=len_le_of_sub h2 h3;rw[List.length_erase_of_mem ha] at h4;have h5:=List.length_pos_of_mem ha;simp only[List.length_cons];omega
theorem fresh_le {used:List Nat} {W:WorkD} (h:WorkOk used W):W.fresh.length≤W.files.length:=by
 have h1:(W.fresh.map (·.1)).Nodup:=by
  have:=h.asc2;exact List.pairwise_map.2 (this.imp fun {a b} hab e=>by rw[e] at hab;exact List.lt_irrefl _ hab)
 have h2:W.fresh.map (·.1) ⊆ W.files.map (·.1):=fun s hs=>by
  obtain⟨p,hp,rfl⟩:=List.mem_map.1 hs;have:=(h.sub p.1 p.2 (look_of_mem h.asc2 hp)).1;exact List.mem_map.2 ⟨_,look_mem this,rfl⟩
 have:=len_le_of_sub h1 h2;simpa using this
end Go.Aq.Fy
namespace Go.Proofs.YtlbdklaggalgfaaGreatDoor
open Go.RowKit Go.Aq Go.Aq.Fy Go.Maps
inductive CellsC (w:World):List ChangeD→List Value→Prop
 | nil:CellsC w [] []
 | cons {c:ChangeD} {cs:List ChangeD} {dv:Value} {xs:List Value}:Sees w 1 dv c.data.length (Bs c.data)→CellsC w cs xs→CellsC w (c::cs) (.int .i64 c.kind:: .string (str c.name):: .string (str c.tonm)::dv::xs)
theorem CellsC.get {w:World}:∀{cs:List ChangeD} {xs:List Value},CellsC w cs xs→∀{i:Nat} {c:ChangeD},cs[i]?=some c→∃dv,xs[4 * i]?=some (.int .i64 c.kind)∧xs[4 * i+1]?=some (.string (str c.name))∧xs[4 * i+2]?=some (.string (str c.tonm))∧xs[4 * i+3]?=some dv∧Sees w 1 dv c.data.length (Bs c.data)
 | _,_,.nil,i,c,h=>by simp at h
 | _,_,.cons h1 h2,0,c,h=>by
  simp only[List.getElem?_cons_zero,Option.some.injEq] at h;subst h;exact⟨_,rfl,rfl,rfl,rfl,h1⟩
 | _,_,.cons h1 h2,i+1,c,h=>by
  simp only[List.getElem?_cons_succ] at h;obtain⟨dv,k1,k2,k3,k4,k5⟩:=h2.get h;refine⟨dv,?_,?_,?_,?_,k5⟩;all_goals rw[show 4 * (i+1)=4 * i+1+1+1+1 by omega];simpa using by assumption
theorem CellsC.len {w:World}:∀{cs:List ChangeD} {xs:List Value},CellsC w cs xs→xs.length=cs.length * 4
 | _,_,.nil=>rfl
 | _,_,.cons h1 h2=>by simp[h2.len];omega
theorem CellsC.chg0 {w w':World} (c:Chg [] w w'):∀{cs:List ChangeD} {xs:List Value},CellsC w cs xs→CellsC w' cs xs
 | _,_,.nil=>.nil
 | _,_,.cons h1 h2=>.cons (h1.chg0 c) (h2.chg0 c)
theorem fclone_any (w:World) (S:List Nat) (b:Nat) (L:Files) (h:FilesR w S b L):
  Calls Tryz.prog 43 #[.map (some b)] w fun e w'=>e=.returned (.map (some w.heap.size))∧(∀T:List Nat,(∀k∈T,k∈S∨w.heap.size≤k)→FilesR w' T w.heap.size L)∧Chg [] w w'∧w.heap.size<w'.heap.size:=by
 obtain⟨l,hM,hT⟩:=h;have h0:=hM.owns;obtain⟨es,clock,hb,F,hs,hD⟩:=h0;refine (AnyW.maps_Clone Tryz.mc43 b es clock w hb).mono fun e w' ⟨h1,h2⟩=>?_
 subst h2;have hc:Chg [] w (w.alloc (.map es clock)):=(Chg.refl [] w).alloc _;exact⟨h1,fun T hk=>⟨l,⟨hM.asc,hM.short,es,clock,heap_alloc_new w _,F,hs,hD⟩,hT.imp fun _ _ _ k=>(k.wide hk).chg hc (by simp)⟩,hc,by simp⟩
theorem bytes_any {q:Nat} {f l bf:Nat} (w:World) (Sd X S0:List Nat) (hS0:∀k∈S0,k<w.heap.size) (hsub:∀k∈f::l::bf::Sd,k∈S0) (g d bl br:Nat) (F:FsD) (W:WorkD) (h:WorkR w S0 g f bl br W) (hF:FsR w Sd X f d l bf F) (hI:FInv q F) (hW:WorkOk (blks F.files) W) (s:Nm) (hs:s.length≤1048576) (hh:hasF W.files s=true):
  (bytesW F W s).length≤1000000∧∀w',Chg [] w w'→Calls Tryz.prog 164 #[.pointer (some ⟨g,0,none⟩),.string (str s)] w' (BytesEnd w' (bl::br::S0) (bytesW F W s)):=by
 obtain⟨x,hx⟩:∃x,lookK s W.files=some x:=Option.isSome_iff_exists.1 hh;cases hf:lookK s W.fresh with
 | some b=>
  have e1:bytesW F W s=b:=by unfold bytesW;rw[hf]
  refine⟨by rw[e1];have:=(hW.sub s b hf).2;omega,fun w' c=>?_⟩;exact bytes_fresh w' _ g f bl br F W (h.chg0 c) s hs b hf
 | none=>
  obtain⟨h1,h2⟩:=hW.old s x hx hf;have hbk:∀k∈x.blocks,k<allF F:=fun k hk=>hI.files.bound k (hW.used k (List.mem_flatMap.2 ⟨(s,x),look_mem hx,hk⟩))
  have e1:bytesW F W s=bytesB F x:=by unfold bytesW;rw[hf,hx]
  have hc:x.size≤256 * x.blocks.length∧x.blocks.length≤256:=by rw[h2];unfold cnt;omega
  refine⟨by rw[e1];unfold bytesB;rw[List.length_take];omega,fun w' c=>?_⟩;exact bytes_file w' Sd X S0 g f d l bf bl br F W (h.chg0 c) (fun k hk=>Nat.lt_of_lt_of_le (hS0 k hk) c.size) hsub (hF.chg0 c) hI.rest.up s hs hf x hx hc.1 (by omega) hbk fun k _=>hI.rest.len k
end Go.Proofs.YtlbdklaggalgfaaGreatDoor
namespace Go.Aq.Fy
theorem take4 {α:Type} {xs:List α} {i:Nat} {a b c d:α} (h0:xs[4 * i]?=some a) (h1:xs[4 * i+1]?=some b) (h2:xs[4 * i+2]?=some c) (h3:xs[4 * i+3]?=some d):xs.take (4 * (i+1))=xs.take (4 * i)++[a,b,c,d]:=by
 rw[show 4 * (i+1)=4 * i+1+1+1+1 by omega,List.take_add_one,List.take_add_one,List.take_add_one,List.take_add_one,h0,h1,h2,h3];simp
end Go.Aq.Fy
namespace Go.Proofs.YtlbdklaggalgfaaGreatDoor
open Go.RowKit Go.Aq Go.Aq.Fy Go.Maps
theorem sl_chD:SliceTy Tryz.prog 57 131 (.agg #[.int .i64 0,.string ⟨#[]⟩,.string ⟨#[]⟩,.slice none 0 0]) 4 64:=⟨Tryz.underlying57,by kernel_rfl,rfl,by decide⟩
set_option maxRecDepth 100000 in
theorem dplain_ok (w:World) (cs:List ChangeD) (v:Value) (xs:List Value) (hv:Sees w 4 v cs.length xs) (hx:CellsC w cs xs) (hl:cs.length≤1000000):
  Calls Tryz.prog 21 #[v] w fun e w'=>∃v',e=.returned v'∧Fresh w w' 131 4 v' cs.length xs:=by
 obtain⟨n,HN⟩:∃n,Hid (cs.length=n):=⟨_,rfl⟩;rw[HN.out] at hv hl ⊢;obtain⟨ao,cap,rfl,-⟩:=hv.shape;have HV:=zA hv hx;clear hv hx;go_enter Tryz.func21,Tryz.ntmps21;go_wp2_with fail;go_loopg [3,4] n (fun gk (v3 v4:Value) wr=>∃(i:Nat) (a6:Option Addr) (c6:Nat),v3=.slice a6 i c6∧v4=.int .i64 (i:Int)∧i+gk=n∧Hid (Fresh w wr 131 4 (.slice a6 i c6) i (xs.take (4 * i))));case atStart=>exact⟨0,none,0,rfl,rfl,by omega,Fresh.nil _ _ _⟩
 case round=>
  obtain⟨i,a6,c6,rfl,rfl,hik,HF⟩:=hrel;by_cases hin:i<n
  ·have t1:decide ((i:Int)<(n:Int))=true:=decide_eq_true (by omega);have t1':decide (i<n)=true:=decide_eq_true hin;have hil:i<cs.length:=by rw[HN.out];exact hin
   obtain⟨g,off,cap',hs,-,hgl,hcell⟩:=HV.out.1.cells (by omega);simp only[Value.slice.injEq,true_and] at hs;obtain⟨hs1,hs2⟩:=hs;subst hs1;obtain⟨dv,k0,k1,k2,k3,k4⟩:=HV.out.2.get (List.getElem?_eq_getElem hil);obtain⟨da,dm,dc,rfl⟩:∃a m c,dv=.slice a m c:=by
    obtain⟨a,c,h,-⟩:=k4.shape;exact⟨a,_,c,h⟩
   have htk:=take4 k0 k1 k2 k3;have hgn:g∉(Value.slice a6 i c6).ownBlock.toList:=fun hm=>by have:=HF.out.new g hm;omega
   have hone:∀u∈[Value.int .i64 cs[i].kind,.string (str cs[i].name),.string (str cs[i].tonm),.slice da dm dc],u.oneCell'=true:=by
    intro u hu;simp only[List.mem_cons,List.not_mem_nil,or_false] at hu;rcases hu with rfl | rfl | rfl | rfl <;> rfl
   have hcs:Hid (∀W,Chg (Value.slice a6 i c6).ownBlock.toList wr.drew W→W.cell? ⟨g,off+i * 4,none⟩=some (.int .i64 cs[i].kind)∧W.cell? ⟨g,off+i * 4+1,none⟩=some (.string (str cs[i].name))∧W.cell? ⟨g,off+i * 4+2,none⟩=some (.string (str cs[i].tonm))∧W.cell? ⟨g,off+i * 4+3,none⟩=some (.slice da dm dc)):=fun W c=>by
    have cw:Chg (Value.slice a6 i c6).ownBlock.toList wr W:=((Chg.refl _ wr).drew).tr c;have f:=fun {a:Addr} {u:Value} (h:w.cell? a=some u) (ha:a.block=g)=>cw.cell_some (HF.out.chg.cell_some h (by simp)) (by rw[ha];exact hgn)
    rw[Nat.mul_comm] at k0 k1 k2 k3;exact⟨f ((hcell _ (by omega)).trans k0) rfl,f ((hcell (i * 4+1) (by omega)).trans k1) rfl,f ((hcell (i * 4+2) (by omega)).trans k2) rfl,f ((hcell (i * 4+3) (by omega)).trans k3) rfl⟩
   have w3:wrap64 ((i:Int)+1)=((i+1:Nat):Int):=by unfold wrap64;omega
   have i1:(0:Int)≤(i:Int):=by omega
   have i2:(i:Int)<n:=by omega
   have hb3:(i+1) * 64≤140737488355328:=by omega
   have hb4:i+1≤9223372036854775807:=by omega
   have HI:=zA hik htk;have HO:=zH hone;clear hik htk k0 k1 k2 k3 k4 hcell hgl hgn hs2 hl hone;generalize cs[i].kind=kd at *;generalize cs[i].name=nm at *;generalize cs[i].tonm=tn at *;clear hil;go_upto_region 5 with (fail);have HF0:Hid (Fresh w wr.drew 131 4 (.slice a6 i c6) i (xs.take (4 * i))):=HF.out.to ((Chg.refl [] wr).drew);have c0:Chg (Value.slice a6 i c6).ownBlock.toList wr.drew wr.drew:=Chg.refl _ _;refine wp_region_E (Value.slice a6 i c6).ownBlock.toList (by kernel_rfl) ?_;generalize wr.drew=W0 at *;refine tE 0 (.slice a6 i c6) c0 (fun w4 c4=>?_) ?_;·go_simp
   refine yG ?_;refine tE 1 (.slice (some ⟨g,off,none⟩) n cap) c0 (fun w4 c4=>?_) ?_;·go_simp
   refine yG ?_;refine tE 2 (.int .i64 (i:Int)) c0 (fun w4 c4=>?_) ?_;·go_simp
   refine yG ?_;refine tE 3 (.pointer (some ⟨g,off+i * 4,none⟩)) c0 (fun w4 c4=>?_) ?_
   ·obtain⟨z0,z1,z2,z3⟩:=hcs.out w4 c4;go_simp
   refine yG ?_;refine tE 4 (.pointer (some ⟨g,off+i * 4,none⟩)) c0 (fun w4 c4=>?_) ?_
   ·obtain⟨z0,z1,z2,z3⟩:=hcs.out w4 c4;go_simp
   refine yG ?_;refine tE 5 (.int .i64 kd) c0 (fun w4 c4=>?_) ?_
   ·obtain⟨z0,z1,z2,z3⟩:=hcs.out w4 c4;go_simp
   refine yG ?_;refine tE 6 (.slice (some ⟨g,off,none⟩) n cap) c0 (fun w4 c4=>?_) ?_;·go_simp
   refine yG ?_;refine tE 7 (.int .i64 (i:Int)) c0 (fun w4 c4=>?_) ?_;·go_simp
   refine yG ?_;refine tE 8 (.pointer (some ⟨g,off+i * 4,none⟩)) c0 (fun w4 c4=>?_) ?_
   ·obtain⟨z0,z1,z2,z3⟩:=hcs.out w4 c4;go_simp
   refine yG ?_;refine tE 9 (.pointer (some ⟨g,off+i * 4+1,none⟩)) c0 (fun w4 c4=>?_) ?_
   ·obtain⟨z0,z1,z2,z3⟩:=hcs.out w4 c4;go_simp
   refine yG ?_;refine tE 10 (.string (str nm)) c0 (fun w4 c4=>?_) ?_
   ·obtain⟨z0,z1,z2,z3⟩:=hcs.out w4 c4;go_simp
   refine yG ?_;refine tE 11 (.slice (some ⟨g,off,none⟩) n cap) c0 (fun w4 c4=>?_) ?_;·go_simp
   refine yG ?_;refine tE 12 (.int .i64 (i:Int)) c0 (fun w4 c4=>?_) ?_;·go_simp
   refine yG ?_;refine tE 13 (.pointer (some ⟨g,off+i * 4,none⟩)) c0 (fun w4 c4=>?_) ?_
   ·obtain⟨z0,z1,z2,z3⟩:=hcs.out w4 c4;go_simp
   refine yG ?_;refine tE 14 (.pointer (some ⟨g,off+i * 4+2,none⟩)) c0 (fun w4 c4=>?_) ?_
   ·obtain⟨z0,z1,z2,z3⟩:=hcs.out w4 c4;go_simp
   refine yG ?_;refine tE 15 (.string (str tn)) c0 (fun w4 c4=>?_) ?_
   ·obtain⟨z0,z1,z2,z3⟩:=hcs.out w4 c4;go_simp
   refine yG ?_;refine tE 16 (.slice (some ⟨g,off,none⟩) n cap) c0 (fun w4 c4=>?_) ?_;·go_simp
   refine yG ?_;refine tE 17 (.int .i64 (i:Int)) c0 (fun w4 c4=>?_) ?_;·go_simp
   refine yG ?_;refine tE 18 (.pointer (some ⟨g,off+i * 4,none⟩)) c0 (fun w4 c4=>?_) ?_
   ·obtain⟨z0,z1,z2,z3⟩:=hcs.out w4 c4;go_simp
   refine yG ?_;refine tE 19 (.pointer (some ⟨g,off+i * 4+3,none⟩)) c0 (fun w4 c4=>?_) ?_
   ·obtain⟨z0,z1,z2,z3⟩:=hcs.out w4 c4;go_simp
   refine yG ?_;refine tE 20 (.slice da dm dc) c0 (fun w4 c4=>?_) ?_
   ·obtain⟨z0,z1,z2,z3⟩:=hcs.out w4 c4;go_simp
   refine yG ?_;refine tE 21 (.agg #[.int .i64 kd,.string (str nm),.string (str tn),.slice da dm dc]) c0 (fun w4 c4=>?_) ?_;·go_simp
   refine yG ?_;refine oE 22 ?_;have hb:Blk (W0.alloc (.cells #[.int .i64 kd,.string (str nm),.string (str tn),.slice da dm dc] 131)) W0.heap.size #[.int .i64 kd,.string (str nm),.string (str tn),.slice da dm dc] 131:=Blk.new _ _ _;have cB:Chg [] W0 (W0.alloc (.cells #[.int .i64 kd,.string (str nm),.string (str tn),.slice da dm dc] 131)):=(Chg.refl [] _).alloc _;have HC0:=zH c0;clear c0;go_simp;have c18:=HC0.out.nil cB;have hO18:=HF0.out.to cB;refine⟨c18,?_⟩;have hs1:Sees (W0.alloc (.cells #[.int .i64 kd,.string (str nm),.string (str tn),.slice da dm dc] 131)) 4 (.slice (some ⟨W0.heap.size,0,none⟩) 1 1) 1 [.int .i64 kd,.string (str nm),.string (str tn),.slice da dm dc]:=Sees.blk hb;generalize W0.heap.size=KK at *;generalize W0.alloc (.cells #[.int .i64 kd,.string (str nm),.string (str tn),.slice da dm dc] 131)=w18 at *;clear cB hb;refine yG ?_;refine oE 23 ?_;refine wp_app _ _ 57 (by rfl) sl_chD hO18.own (by rfl) hs1 (by rfl) HO.out hb3 hb4 ?_;intro v19 w19 o19 e19 n19;have c19:Chg (Value.slice a6 i c6).ownBlock.toList W0 w19:=c18.tr e19;have hF19:=hO18.app o19 e19 n19;clear o19 e19 n19;refine⟨c19,?_⟩;refine yG ?_;refine tE 24 (v19) c19 (fun w4 c4=>?_) ?_;·go_simp
   refine yG ?_;refine wpAnyE_done (by kernel_rfl) ?_ _;obtain⟨a19,q19,rfl,-⟩:=hF19.shape;rw[←HI.out.2] at hF19;have HF19:=zH hF19;clear hF19 c19 c18 hO18 hs1;go_wp2_with fail;go_roundg (gk - 1);case measure=>have:=HI.out.1;omega
   case rel=>exact⟨i+1,a19,q19,rfl,by first | rfl | rw[w3],by have:=HI.out.1;omega,HF19⟩
  ·have t1:decide ((i:Int)<(n:Int))=false:=decide_eq_false (by omega);have t1':decide (i<n)=false:=decide_eq_false hin;obtain rfl:i=n:=by omega
   go_wp2_with fail;go_ret;have h:=HF.out;rw[List.take_of_length_le (by rw[HV.out.2.len,HN.out];omega)] at h;exact⟨_,rfl,h⟩
end Go.Proofs.YtlbdklaggalgfaaGreatDoor
