/- Contract of aquref1.Sum. No statement of the seat is proved here. -/
import Derived.Test.YtlidiclfpklliaaGreatDoorG34
set_option linter.unusedVariables false
set_option maxHeartbeats 40000000
namespace Go.Aq.Sha
def ovr (l z:List Nat) (j:Nat):List Nat:=l.take j++z.drop j
theorem ovr_zero (l z:List Nat):ovr l z 0=z:=by simp[ovr]
theorem ovr_all (l z:List Nat) (n:Nat) (hl:l.length=n) (hz:z.length=n):ovr l z n=l:=by simp[ovr,←hl,List.drop_of_length_le (show z.length≤l.length by omega)]
theorem ovr_length (l z:List Nat) (n j:Nat) (hl:l.length=n) (hz:z.length=n) (hj:j≤n):(ovr l z j).length=n:=by simp[ovr];omega
theorem ovr_get (l z:List Nat) (i j:Nat) (h:i≤l.length) (hj:j<i):(ovr l z i).getD j 0=l.getD j 0:=by
 unfold ovr
 rw[List.getD_eq_getElem?_getD,List.getElem?_append_left (by simp;omega),List.getElem?_take_of_lt hj,List.getD_eq_getElem?_getD]
theorem ovr_set (l z:List Nat) (n i x:Nat) (hl:l.length=n) (hz:z.length=n) (h:i<n) (hx:l[i]?=some x):(ovr l z i).set i x=ovr l z (i+1):=by
 unfold ovr
 have hl':(l.take i).length=i:=by simp;omega
 rw[List.set_append_right _ _ (by omega),hl',Nat.sub_self,List.drop_eq_getElem_cons (by omega),List.set_cons_zero]
 obtain⟨h1,h2⟩:=List.getElem?_eq_some_iff.1 hx
 rw[List.take_succ_eq_append_getElem h1,h2]
 simp
theorem beB_get (N j:Nat) (h:j<8):(beB N 8)[j]'(by rw[beB_length];exact h)=UInt8.ofNat (N / 2^(8 * (7 - j))):=by
 simp only[beB,List.getElem_reverse,leBy,List.getElem_map,List.getElem_range,List.length_map,List.length_range]
theorem Bs_be4 (x:Nat):Bs (beB x 4)=[.int .u8 ((x:Int) / 16777216 % 256),.int .u8 ((x:Int) / 65536 % 256),.int .u8 ((x:Int) / 256 % 256),.int .u8 ((x:Int) % 256)]:=by
 have e:beB x 4=[UInt8.ofNat (x / 16777216),UInt8.ofNat (x / 65536),UInt8.ofNat (x / 256),UInt8.ofNat (x / 1)]:=rfl
 rw[e,Nat.div_one]
 simp[Bs,Bc]
end Go.Aq.Sha
namespace Go.Proofs.YtlidiclfpklliaaGreatDoor
open Go.RowKit Go.Aq Go.Aq.Sha
set_option maxRecDepth 100000 in
theorem turnZ (x:Nat) (c:Int) (hx:x<4294967296) (h1:1≤c) (h2:c≤31) (w:World):Calls Tryz.prog 156 #[.int .u32 x,.int .i64 c] w fun e w'=>e=.returned (.int .u32 (rotr x c.toNat:Nat))∧∃n,w'=w.drewN n:=by
 obtain⟨k,rfl⟩:=Int.eq_ofNat_of_zero_le (show 0≤c by omega)
 rw[Int.toNat_natCast]
 exact turn_any x k hx (by omega) (by omega) w
theorem or4 (a b c d:Nat) (ha:a<256) (hb:b<256) (hc:c<256) (hd:d<256):
  bits .or .u32 (bits .or .u32 (bits .or .u32 ((a:Int) * 16777216) ((b:Int) * 65536)) ((c:Int) * 256)) (d:Int)=((a * 16777216+b * 65536+c * 256+d:Nat):Int):=by
 have e1:(a * 16777216 ||| b * 65536)=a * 16777216+b * 65536:=by
  have:=or_shift (b * 65536) a 24 (by omega)
  rw[show (2:Nat)^24=16777216 by decide] at this
  rw[Nat.or_comm,this];omega
 have e2:((a * 16777216+b * 65536) ||| c * 256)=a * 16777216+b * 65536+c * 256:=by
  have:=or_shift (c * 256) (a * 256+b) 16 (by omega)
  rw[show (2:Nat)^16=65536 by decide] at this
  rw[Nat.or_comm,show a * 16777216+b * 65536=(a * 256+b) * 65536 by omega,this];omega
 have e3:((a * 16777216+b * 65536+c * 256) ||| d)=a * 16777216+b * 65536+c * 256+d:=by
  have:=or_shift d (a * 65536+b * 256+c) 8 (by omega)
  rw[show (2:Nat)^8=256 by decide] at this
  rw[Nat.or_comm,show a * 16777216+b * 65536+c * 256=(a * 65536+b * 256+c) * 256 by omega,this];omega
 have f1:=(bits_u32 (a * 16777216) (b * 65536) (by omega) (by omega)).2.1
 rw[e1] at f1
 have f2:=(bits_u32 (a * 16777216+b * 65536) (c * 256) (by omega) (by omega)).2.1
 rw[e2] at f2
 have f3:=(bits_u32 (a * 16777216+b * 65536+c * 256) d (by omega) (by omega)).2.1
 rw[e3] at f3
 have g1:((a:Int) * 16777216)=((a * 16777216:Nat):Int):=by simp
 have g2:((b:Int) * 65536)=((b * 65536:Nat):Int):=by simp
 have g3:((c:Int) * 256)=((c * 256:Nat):Int):=by simp
 rw[g1,g2,g3,f1,f2,f3]
set_option maxRecDepth 100000 in
theorem sl_u32:SliceTy Tryz.prog 221 223 (.int .u32 0) 1 4:=⟨Tryz.underlying221,by kernel_rfl,rfl,by decide⟩
set_option maxRecDepth 100000 in
theorem refSum_any (w:World) (v:Value) (n:Nat) (b:List UInt8) (hv:Sees w 1 v n (Bs b)) (hn:n≤1000000):
  Calls Tryz.prog 87 #[v] w fun e w'=>∃v',e=.returned v'∧Fresh w w' 5 1 v' 32 (Bs (sum b)):=by
 have hz8:∀w,(zeroValue 226).run Tryz.prog w=.ok (.agg (Ws z8).toArray) w:=fun _=>by kernel_rfl
 have hbl:b.length=n:=by have:=hv.len;rw[Bs_length] at this;omega
 have hpl:=pad_length b
 have hpe:pad b=b++[0x80]++List.replicate (zeros n) 0++be (8 * n) 8:=by unfold pad;rw[hbl]
 rw[hbl] at hpl
 have hsum:sum b=out (blocks (pad b) ((pad b).length / 64) 0 st0):=rfl
 have HSUM:=zH hsum
 have HPL:=zH hpl
 have HPE:=zH hpe
 have HBL:=zH hbl
 have HPM:=zH (pad_mod b)
 clear hpl hpe hbl hsum
 obtain⟨ao,cap,rfl,hcap,hnil⟩:=hv.shape
 have HNIL:=zH hnil;clear hnil
 have HZ:=zH (zeros_not n)
 have HZD:=zH (zeros_done n)
 have hzl:=zeros_lt n
 generalize zeros n=Z at *
 go_enter Tryz.func87,Tryz.ntmps87
 go_wp2_with fail
 refine (const_any w).mono ?_
 rintro e w1 ⟨BK,rfl,hK,hc1,hBK⟩
 go_upto_region 3 with (fail)
 have hH:Blk (w1.alloc (.cells #[.int .u32 1779033703,.int .u32 3144134277,.int .u32 1013904242,.int .u32 2773480762,.int .u32 1359893119,.int .u32 2600822924,.int .u32 528734635,.int .u32 1541459225] 223)) w1.heap.size (Ws (stL st0)).toArray 223:=Blk.new w1 _ _
 have hcH:Chg [] w1 (w1.alloc (.cells #[.int .u32 1779033703,.int .u32 3144134277,.int .u32 1013904242,.int .u32 2773480762,.int .u32 1359893119,.int .u32 2600822924,.int .u32 528734635,.int .u32 1541459225] 223)):=(Chg.refl _ _).alloc _
 have hHs:=hH.lt
 generalize w1.alloc (.cells #[.int .u32 1779033703,.int .u32 3144134277,.int .u32 1013904242,.int .u32 2773480762,.int .u32 1359893119,.int .u32 2600822924,.int .u32 528734635,.int .u32 1541459225] 223)=w2 at *
 have hK2:=hK.chg0 hcH
 have hKH:BK≠w1.heap.size:=by have:=hK.lt;omega
 have hH0:w.heap.size≤w1.heap.size:=hc1.size
 have hc2:=hc1.nil hcH
 generalize w1.heap.size=BH at *
 have HWF0:=zH st0_wf
 generalize st0=s0 at *
 clear hK hcH hc1 w1
 have HKH:=zC hKH hH0 hBK hHs
 clear hKH hH0 hBK hHs
 go_wp2_with fail
 refine (copyF w2 _ n b (hv.chg0 hc2) (by omega)).mono ?_
 rintro e w3 ⟨vc,rfl,hfc⟩
 go_wp2_with (at_builtin;refine wpList_appF (w0:=w2) rfl _ _ 36 rfl sl_u8 (by exact hfc.to ((Chg.refl [] w3).alloc (.cells #[.int .u8 128] 5))) rfl (Sees.row (cs:=#[.int .u8 128]) (by exact Blk.new w3 _ 5) (m:=1) rfl) rfl (by simp[Value.oneCell']) (by omega) (by omega) ?_;intro v4 w4 hF4 c4)
 have hF4':Fresh w2 w4 5 1 v4 (n+1+0) (Bs (b++[128]++List.replicate 0 0)):=by
  simpa[Bs,Bc] using hF4
 clear hF4 c4 hfc
 go_loopg [5] Z (fun k vo wr=>∃(j m:Nat),j+k=Z∧m=n+1+j∧Fresh w2 wr 5 1 vo m (Bs (b++[128]++List.replicate j 0)))
 case atStart=>exact⟨0,_,by omega,rfl,hF4'⟩
 case round=>
  clear hF4'
  obtain⟨j,m,hjk,hm,hf⟩:=hrel
  obtain⟨g,capo,hvo,hcapo,-,-⟩:=hf.own.pos (by omega)
  subst hvo
  have hmb:1≤m∧m≤2000000:=by omega
  obtain⟨hm1,hm2⟩:=hmb
  by_cases hlt:j<Z
  ·have hne:=HZ.out j hlt
   have t1:(((m:Int) % 64) != 56)=true:=by simp;omega
   have HM:=zH hm;clear hm
   have HJ:=zH hjk;clear hjk hne
   as_aux_lemma=>
    go_wp2_with (at_builtin;refine wpList_appF (w0:=w2) rfl _ _ 36 rfl sl_u8 (by exact hf.to ((Chg.refl [] wr).alloc (.cells #[.int .u8 0] 5))) rfl (Sees.row (cs:=#[.int .u8 0]) (by exact Blk.new wr _ 5) (m:=1) rfl) rfl (by simp[Value.oneCell']) (by omega) (by omega) ?_;intro v4 w4 hF4 c4)
    go_roundg (gk - 1)
    case measure=>have:=HJ.out;omega
    case rel=>
     refine⟨j+1,m+1,by have:=HJ.out;omega,by have:=HM.out;omega,?_⟩
     have e2:Bs (b++[128]++List.replicate (j+1) 0)=Bs (b++[128]++List.replicate j 0)++[.int .u8 0]:=by
      rw[List.replicate_succ',←List.append_assoc,Bs_append (b++[128]++List.replicate j 0)]
      rfl
     rw[e2]
     exact hF4
  ·have hj:j=Z:=by omega
   subst hj
   have t1:(((m:Int) % 64) != 56)=false:=by have:=HZD.out;simp;omega
   have HM:=zH hm
   clear hm hjk HZ HZD
   obtain⟨G,hG⟩:∃G,G=gk:=⟨_,rfl⟩
   obtain⟨wo,hwo⟩:∃wo:World,wo=wr:=⟨_,rfl⟩
   clear hG
   rw[←hwo] at hf
   subst hwo
   go_upto_region 8 with (fail)
   obtain⟨N,hNn,hN⟩:∃N:Nat,N=8 * n∧(n:Int) * 8=(N:Int):=⟨8 * n,rfl,by omega⟩
   rw[hN]
   have HPE2:=zH (show pad b=(b++[128]++List.replicate j 0)++beB N 8 by rw[HPE.out,be_eq,hNn])
   have hNb:N≤8000000:=by omega
   clear hN hNn HPE
   generalize b++[128]++List.replicate j 0=base at *
   have hf0:Fresh w2 wo 5 1 (.slice (some ⟨g,0,none⟩) m capo) (m+0) (Bs (base++(beB N 8).take 0)):=by simpa using hf
   clear hf
   go_wp2_with fail
   go_loopg [5,7] 8 (fun k vo vi wr=>∃(j' mm:Nat) (bi:Int),vi=.int .i64 bi∧bi+1=(k:Int)∧j'+k=8∧mm=m+j'∧Fresh w2 wr 5 1 vo mm (Bs (base++(beB N 8).take j')))
   case atStart=>exact⟨0,_,7,rfl,by omega,by omega,rfl,hf0⟩
   case round=>
    clear hf0
    obtain⟨j',mm,bi,rfl,hbi,hjk,hmm,hf⟩:=hrel
    have HMM:=zH hmm
    have hmmb:mm≤3000000:=by omega
    clear hmm
    by_cases hk0:gk=0
    ·have hbm:bi= -1:=by omega
     have hj8:j'=8:=by omega
     subst hbm hj8
     rw[List.take_of_length_le (by rw[beB_length];exact Nat.le_refl _),←HPE2.out] at hf
     have hmp:mm=(pad b).length:=by rw[HPL.out,HMM.out,HM.out]
     rw[hmp] at hf
     have hpb:(pad b).length≤3000000∧64≤(pad b).length:=by have:=HPM.out;have:=HPL.out;omega
     obtain⟨hpb1,hpb2⟩:=hpb
     have hK5:=hK2.chg0 hf.chg
     have hH5:=hH.chg0 hf.chg
     have hc5:=hc2.nil hf.chg
     obtain⟨gm,capm,hvm,hcapm,-,-⟩:=hf.own.pos (by omega)
     subst hvm
     have hgm:=hf.new gm (by simp[Value.ownBlock])
     have hom:=hf.own
     generalize pad b=M at *
     have HGM:=zH (show gm≠BH∧gm≠BK by have:=HKH.out;have:=hK2.lt;omega)
     clear hf hmp HPE2 HPL HBL HM HMM hbi hjk hk0 hK2 hH hgm
     obtain⟨G2,hG⟩:∃G,G=gk:=⟨_,rfl⟩
     obtain⟨w5,hw5⟩:∃w5:World,w5=wr:=⟨_,rfl⟩
     clear hG
     rw[←hw5] at hK5 hH5 hc5 hom
     subst hw5
     generalize hML:M.length=L at *
     have HML:=zH hML;clear hML
     go_wp2_with (at_make;refine wpList_mk rfl _ _ 221 rfl sl_u32 rfl .i64 .i64 64 rfl rfl (by rfl) (by rfl) (by omega) (by omega) ?_;intro w6 ho6 hc6 hs6)
     have hBW6:Blk w6 w5.heap.size (Ws z64).toArray 223:=by
      have h:=ho6.blk
      have e:List.replicate 64 (Value.int IntKind.u32 0)=Ws z64:=by simp[Ws,z64]
      rw[e] at h
      exact h
     have hK6:=hK5.chg0 hc6
     have hH6:=hH5.chg0 hc6
     have hom6:=hom.chg hc6 (fun _ _=>by simp)
     have hc06:=hc5.nil hc6
     have hne:=And.intro (show w5.heap.size≠BH by have:=hH5.lt;omega) (And.intro (show w5.heap.size≠BK by have:=hK5.lt;omega) (And.intro (show w5.heap.size≠gm by have:=hom.lt gm (by simp[Value.ownBlock]);omega) hc5.size))
     generalize w5.heap.size=BW at *
     have HNE:=zH hne
     have hz64:z64.length=64:=rfl
     generalize z64=Z0 at *
     clear hne ho6 hs6 hK5 hH5 hom hc5 hc6 w5
     have hH6':Blk w6 BH (Ws (stL (blocks M 0 0 s0))).toArray 223:=by rw[blocks_zero];exact hH6
     go_loopg [9] (L / 64) (fun k va wr=>∃(i a:Nat) (Wp:List Nat),va=.int .i64 a∧i+k=L / 64∧a=64 * i∧Wp.length=64∧Blk wr BW (Ws Wp).toArray 223∧Blk wr BH (Ws (stL (blocks M i 0 s0))).toArray 223∧Chg [BW,BH] w6 wr)
     case atStart=>exact⟨0,0,Z0,rfl,by omega,rfl,hz64,hBW6,hH6',Chg.refl _ _⟩
     case round=>
      clear hH6' hH6 hBW6 hz64 Z0
      obtain⟨i,a,Wp,rfl,hik,hai,hWp,hbW,hbH,hcr⟩:=hrel
      obtain⟨GK,hGK⟩:∃G,G=gk:=⟨_,rfl⟩
      obtain⟨wo,hwo⟩:∃wo:World,wo=wr:=⟨_,rfl⟩
      have HGK:=zH hGK;clear hGK
      rw[←hwo] at hbW hbH hcr
      by_cases hlt:a<L
      ·have h64:a+64≤L:=by have:=HPM.out;omega
       have ta:decide ((a:Int)<(L:Int))=true:=by simp;omega
       have ta':decide (a<L)=true:=by simp;omega
       have HF:=zH (sched_first M a)
       have HX:=zH (sched_next M a)
       have HWL:=zH (sched_len M a)
       have HLT:=zH (sched_lt M a)
       have hKo:=hK6.chg hcr (by have:=HNE.out;have:=HKH.out;simp;omega)
       have homo:=hom6.chg hcr (fun k hk=>by have:=HNE.out;have:=HGM.out;simp[Value.ownBlock] at hk;simp;omega)
       have hsn:=blocks_snoc M i 0 s0
       rw[Nat.zero_add,←hai] at hsn
       have hmx:∀T:St,T=rounds (blocks M i 0 s0) (sched M a) 64 0→stL (mix (blocks M i 0 s0) M a)=addL (blocks M i 0 s0) T 8:=by
        rintro T rfl
        rw[addL_all]
        rfl
       have HMX:=zH hmx
       have HSN:=zH hsn
       have HIK:=zB hik hai hWp
       clear hmx hsn hik hai
       subst hwo
       generalize sched M a=W at *
       clear hv HNIL HSUM
       go_wp2_with fail
       have hbW0:Blk wo BW (Ws (ovr W Wp 0)).toArray 223:=by rw[ovr_zero];exact hbW
       go_loopg [10] 16 (fun k vi wr=>∃j:Nat,vi=.int .i64 j∧j+k=16∧Blk wr BW (Ws (ovr W Wp j)).toArray 223∧Chg [BW] wo wr)
       case atStart=>exact⟨0,rfl,by omega,hbW0,Chg.refl _ _⟩
       case round=>
        clear hbW0
        obtain⟨j,rfl,hjk,hb4,hc4⟩:=hrel
        by_cases hj:j<16
        ·obtain⟨p,hpp,hp⟩:∃p:Nat,p=a+4 * j∧(a:Int)+4 * (j:Int)=(p:Int):=⟨a+4 * j,rfl,by omega⟩
         have hpL:p+4≤L:=by omega
         have hwd:=HF.out j hj
         rw[←hpp] at hwd
         have hst:=ovr_set W Wp 64 j _ HWL.out hWp (by omega) hwd
         have hoW:=homo.chg hc4 (fun k hk=>by have:=HNE.out;simp[Value.ownBlock] at hk;simp;omega)
         have hlen:(ovr W Wp j).length=64:=ovr_length W Wp 64 j HWL.out hWp (by omega)
         have f0:=hb4.frozen j
         have x0:∃u,wr.cell? ⟨BW,j,none⟩=some u:=by
          rw[hb4.cell]
          exact⟨_,List.getElem?_toArray▸List.getElem?_eq_getElem (by rw[Ws_length,hlen];omega)⟩
         obtain⟨u,x0⟩:=x0
         have hMl:=HML.out
         have cc:∀t,t<4→wr.cell? ⟨gm,p+t,none⟩=some (.int .u8 ((M.getD (p+t) 0).toNat:Int)):=fun t ht=>by
          rw[hoW.cellAt (p+t) (by omega),Bs_get _ _ (by omega)]
          simp[List.getD_eq_getElem?_getD,show p+t<M.length by omega]
         have y0:=cc 0 (by omega)
         have y1:=cc 1 (by omega)
         have y2:=cc 2 (by omega)
         have y3:=cc 3 (by omega)
         rw[Nat.add_zero] at y0
         have hww:word M p=(M.getD p 0).toNat * 16777216+(M.getD (p+1) 0).toNat * 65536+(M.getD (p+2) 0).toNat * 256+(M.getD (p+3) 0).toNat:=rfl
         rw[hww] at hst
         have b0:=(M.getD p 0).toNat_lt
         have b1:=(M.getD (p+1) 0).toNat_lt
         have b2:=(M.getD (p+2) 0).toNat_lt
         have b3:=(M.getD (p+3) 0).toNat_lt
         rw[Nat.add_zero] at *
         generalize (M.getD p 0).toNat=m0 at *
         generalize (M.getD (p+1) 0).toNat=m1 at *
         generalize (M.getD (p+2) 0).toNat=m2 at *
         generalize (M.getD (p+3) 0).toNat=m3 at *
         have tj:decide ((j:Int)<16)=true:=by simp;omega
         have ij:(j:Int)<64:=by omega
         have HST:=zH hst
         have HJ:=zH hjk
         have HP:=zH hpp
         clear hwd hst hlen hww cc hjk hpp hoW hMl
         have ip0:(p:Int)<L:=by omega
         have ip1:(p:Int)+1<L:=by omega
         have ip2:(p:Int)+2<L:=by omega
         have ip3:(p:Int)+3<L:=by omega
         have hor:=or4 m0 m1 m2 m3 b0 b1 b2 b3
         have hb5:=(hb4.set j (.int .u32 ((m0 * 16777216+m1 * 65536+m2 * 256+m3:Nat):Int))).drew
         have hc5:=(hc4.setCell (p:=⟨BW,j,none⟩) (by simp) (.int .u32 ((m0 * 16777216+m1 * 65536+m2 * 256+m3:Nat):Int))).drew
         rw[List.setIfInBounds_toArray,Ws_set,HST.out] at hb5
         rw[←hor] at hb5 hc5
         clear hor
         as_aux_lemma=>
          go_wp2_with fail
          go_region
          generalize (wr.setCell ⟨BW,j,none⟩ (.int .u32 (bits .or .u32 (bits .or .u32 (bits .or .u32 ((m0:Int) * 16777216) ((m1:Int) * 65536)) ((m2:Int) * 256)) (m3:Int)))).drew=w7 at *
          go_wp2_with fail
          go_roundg (gk - 1)
          case measure=>have:=HJ.out;omega
          case rel=>exact⟨j+1,by go_num,by have:=HJ.out;omega,hb5,hc5⟩
        ·have hj16:j=16:=by omega
         subst hj16
         obtain⟨wp,hwp⟩:∃wp:World,wp=wr:=⟨_,rfl⟩
         rw[←hwp] at hb4 hc4
         subst hwp
         clear hjk hj
         have hWl:=HWL.out
         have HWl:=zH hWl;clear hWl
         go_wp2_with fail
         go_loopg [12] 48 (fun k vi wr=>∃j:Nat,vi=.int .i64 j∧j+k=64∧16≤j∧Blk wr BW (Ws (ovr W Wp j)).toArray 223∧Chg [BW] wo wr)
         case atStart=>exact⟨16,rfl,by omega,by omega,hb4,hc4⟩
         case round=>
          clear hb4 hc4
          obtain⟨j,rfl,hjk,hj16,hb4,hc4⟩:=hrel
          by_cases hj:j<64
          ·have hnx:=HX.out j hj16 hj
           have hst:=ovr_set W Wp 64 j _ HWL.out hWp hj hnx
           have hlen:(ovr W Wp j).length=64:=ovr_length W Wp 64 j HWL.out hWp (by omega)
           have cf:∀w':World,Blk w' BW (Ws (ovr W Wp j)).toArray 223→w'.cell? ⟨BW,j - 15,none⟩=some (.int .u32 (W.getD (j - 15) 0:Nat))∧w'.cell? ⟨BW,j - 2,none⟩=some (.int .u32 (W.getD (j - 2) 0:Nat))∧
             w'.cell? ⟨BW,j - 16,none⟩=some (.int .u32 (W.getD (j - 16) 0:Nat))∧w'.cell? ⟨BW,j - 7,none⟩=some (.int .u32 (W.getD (j - 7) 0:Nat))∧∃u,w'.cell? ⟨BW,j,none⟩=some u:=by
            intro w' hb
            refine⟨?_,?_,?_,?_,?_⟩
            iterate 4 rw[hb.cell,List.getElem?_toArray,Ws_get _ _ (by omega),ovr_get W Wp j _ (by rw[HWL.out];omega) (by omega)]
            rw[hb.cell]
            exact⟨_,List.getElem?_toArray▸List.getElem?_eq_getElem (by rw[Ws_length,hlen];omega)⟩
           have l15:=HLT.out (j - 15)
           have l2:=HLT.out (j - 2)
           have l16:=HLT.out (j - 16)
           have l7:=HLT.out (j - 7)
           generalize W.getD (j - 15) 0=a15 at *
           generalize W.getD (j - 2) 0=a2 at *
           generalize W.getD (j - 16) 0=a16 at *
           generalize W.getD (j - 7) 0=a7 at *
           have HST:=zH hst
           have CF:=zH cf
           have HJ:=zH hjk
           clear hst hnx hlen cf hjk
           obtain⟨c15,c2,c16,c7,u',x0⟩:=CF.out wr hb4
           have tj:decide ((j:Int)<64)=true:=by simp;omega
           have ij:(j:Int)<64:=by omega
           obtain⟨p7,b7,e7⟩:∃p,p<4294967296∧rotr a15 7=p:=⟨_,rotr_lt _ _,rfl⟩
           obtain⟨p18,b18,e18⟩:∃p,p<4294967296∧rotr a15 18=p:=⟨_,rotr_lt _ _,rfl⟩
           obtain⟨p17,b17,e17⟩:∃p,p<4294967296∧rotr a2 17=p:=⟨_,rotr_lt _ _,rfl⟩
           obtain⟨p19,b19,e19⟩:∃p,p<4294967296∧rotr a2 19=p:=⟨_,rotr_lt _ _,rfl⟩
           have HE:=zB (And.intro e7 e18) e17 e19
           obtain⟨q3,bq3,hq3,eq3⟩:∃q:Nat,q<4294967296∧(a15:Int) / 8=(q:Int)∧Hid (q=a15 >>> 3):=⟨a15 / 8,by omega,by simp,zH (by rw[Nat.shiftRight_eq_div_pow])⟩
           obtain⟨q10,bq10,hq10,eq10⟩:∃q:Nat,q<4294967296∧(a2:Int) / 1024=(q:Int)∧Hid (q=a2 >>> 10):=⟨a2 / 1024,by omega,by simp,zH (by rw[Nat.shiftRight_eq_div_pow])⟩
           obtain⟨y1,by1,hy1,ey1⟩:=x32 p7 p18 b7 b18
           obtain⟨y2,by2,hy2,ey2⟩:=x32 y1 q3 by1 bq3
           obtain⟨z1,bz1,hz1,ez1⟩:=x32 p17 p19 b17 b19
           obtain⟨z2,bz2,hz2,ez2⟩:=x32 z1 q10 bz1 bq10
           as_aux_lemma=>
            go_wp2_with fail
            go_quiet ((exact Calls.quiet_of (turnZ _ _ (by assumption) (by decide) (by decide) _)))
            have hb4':Blk (wr.drewN nq) BW (Ws (ovr W Wp j)).toArray 223:=hb4
            have hc4':=hc4.drewN nq
            clear c15 c2 c16 c7 x0 hb4 hc4 e7 e18
            generalize wr.drewN nq=w8 at *
            obtain⟨c15,c2,c16,c7,u'',x0⟩:=CF.out w8 hb4'
            go_wp2_with fail
            go_quiet ((exact Calls.quiet_of (turnZ _ _ (by assumption) (by decide) (by decide) _)))
            have hb5':Blk (w8.drewN nq) BW (Ws (ovr W Wp j)).toArray 223:=hb4'
            have hc5':=hc4'.drewN nq
            clear c15 c2 c16 c7 x0 hb4' hc4' e17 e19
            generalize w8.drewN nq=w9 at *
            obtain⟨c15,c2,c16,c7,u3',x0⟩:=CF.out w9 hb5'
            have f0:=hb5'.frozen j
            have hy:y2=Sha.s0 a15:=by unfold Sha.s0;rw[ey2.out,ey1.out,eq3.out,HE.out.1.1,HE.out.1.2]
            have hzz:z2=s1 a2:=by unfold s1;rw[ez2.out,ez1.out,eq10.out,HE.out.2.1,HE.out.2.2]
            have hst:=HST.out
            rw[←hy,←hzz] at hst
            have hb6:=(hb5'.set j (.int .u32 (((a16+y2+a7+z2) % m32:Nat):Int))).drew
            have hc6:=(hc5'.setCell (p:=⟨BW,j,none⟩) (by simp) (.int .u32 (((a16+y2+a7+z2) % m32:Nat):Int))).drew
            rw[List.setIfInBounds_toArray,Ws_set,hst] at hb6
            have e4:(((a16+y2+a7+z2) % m32:Nat):Int)=((a16:Int)+y2+a7+z2) % 4294967296:=by simp[m32]
            rw[e4] at hb6 hc6
            clear hy hzz hst e4 hy1 hy2 hz1 hz2 hq3 hq10
            go_wp2_with fail
            go_region
            generalize (w9.setCell ⟨BW,j,none⟩ (.int .u32 (((a16:Int)+y2+a7+z2) % 4294967296))).drew=w10 at *
            go_wp2_with fail
            go_roundg (gk - 1)
            case measure=>have:=HJ.out;omega
            case rel=>exact⟨j+1,by go_num,by have:=HJ.out;omega,by omega,hb6,hc6⟩
          ·have hj64:j=64:=by omega
           subst hj64
           rw[ovr_all W Wp 64 HWL.out hWp] at hb4
           obtain⟨wq,hwq⟩:∃wq:World,wq=wr:=⟨_,rfl⟩
           rw[←hwq] at hb4 hc4
           subst hwq
           have hbH4:=hbH.chg hc4 (by have:=HNE.out;simp;omega)
           have hK4:=hKo.chg hc4 (by have:=HNE.out;simp;omega)
           have hwf:=blocks_wf M s0 HWF0.out i
           generalize blocks M i 0 s0=S at *
           have hcq:Chg [BW,BH] w6 wq:=hcr.trans hc4 (by simp)
           have HWF:=zH hwf
           clear hjk hj hj16 hc4 hwf hbH hbW hKo hcr homo HF HX
           have o8:=Ws_one (stL S)
           have O8:=zH o8;clear o8
           go_upto_region 27 with (fail)
           have hV:=Blk.new wq (Ws z8).toArray 226
           have hcV:=(Chg.refl [] wq).alloc (.cells (Ws z8).toArray 226)
           have hbV:wq.heap.size≠BW∧wq.heap.size≠BH∧wq.heap.size≠BK∧w6.heap.size≤wq.heap.size:=by have:=hb4.lt;have:=hbH4.lt;have:=hK4.lt;have:=hcq.size;omega
           have hW5:=hb4.chg0 hcV
           have hH5:=hbH4.chg0 hcV
           have hK5:=hK4.chg0 hcV
           have hcV6:=hcq.nil hcV
           generalize wq.alloc (.cells (Ws z8).toArray 226)=wv at *
           generalize wq.heap.size=BV at *
           have HBV:=zH hbV
           clear hbV hcV hb4 hbH4 hK4 hcq
           go_wp2_with (refine wpList_cp rfl _ _ 221 221 rfl 223 Tryz.underlying221 (by kernel_rfl) (cur:=Ws z8) (src:=Ws (stL S)) (n:=8) hV hH5 rfl rfl O8.out rfl rfl ?_;intro w11 hV11 hc11 hs11)
           have hW6:=hW5.chg hc11 (by have:=HBV.out;simp;omega)
           have hH6:=hH5.chg hc11 (by have:=HBV.out;simp;omega)
           have hK6':=hK5.chg hc11 (by have:=HBV.out;simp;omega)
           have hc116:Chg [BW,BH] w6 w11:=hcV6.trans hc11 (by have:=HBV.out;simp;omega)
           clear hV hW5 hH5 hK5 hcV6 hc11 hs11
           go_loopg [16] 64 (fun k vi wr=>∃j:Nat,vi=.int .i64 j∧j+k=64∧Blk wr BV (Ws (stL (rounds S W j 0))).toArray 226∧Chg [BV] w11 wr)
           case atStart=>exact⟨0,rfl,by omega,hV11,Chg.refl _ _⟩
           case round=>
            clear hV11
            obtain⟨j,rfl,hjk,hb,hcv⟩:=hrel
            by_cases hj:j<64
            ·have hwf6:=rounds_wf W S HWF.out j
             have hstep:=rounds_snoc W j 0 S
             rw[Nat.zero_add] at hstep
             have hk:=K_lt j
             have hwi:=HLT.out j
             obtain⟨k,hkk⟩:∃k,K.getD j 0=k:=⟨_,rfl⟩
             obtain⟨x,hxx⟩:∃x,W.getD j 0=x:=⟨_,rfl⟩
             rw[hkk] at hk hstep
             rw[hxx] at hwi hstep
             have kc:wr.cell? ⟨BK,j,none⟩=some (.int .u32 (k:Nat)):=by
              rw[(hK6'.chg hcv (by have:=HBV.out;simp;omega)).cell,List.getElem?_toArray,Ws_get _ _ (by rw[K_len];exact hj),hkk]
             have wc:wr.cell? ⟨BW,j,none⟩=some (.int .u32 (x:Nat)):=by
              rw[(hW6.chg hcv (by have:=HBV.out;simp;omega)).cell,List.getElem?_toArray,Ws_get _ _ (by rw[HWL.out];exact hj),hxx]
             clear hkk hxx
             generalize rounds S W j 0=T at *
             obtain⟨a1,a2,a3,a4,a5,a6,a7,a8⟩:=T
             obtain⟨l1,l2,l3,l4,l5,l6,l7,l8⟩:=hwf6
             simp only at l1 l2 l3 l4 l5 l6 l7 l8
             have HST:=zH hstep
             have HJ:=zH hjk
             clear hstep hjk
             have tj:decide ((j:Int)<64)=true:=by simp;omega
             have ij:(j:Int)<64:=by omega
             have CF:=zA kc wc
             clear kc wc
             have cf:∀w':World,Blk w' BV (Ws (stL ⟨a1,a2,a3,a4,a5,a6,a7,a8⟩)).toArray 226→(w'.cell? ⟨BV,0,none⟩=some (.int .u32 (a1:Nat))∧w'.cell? ⟨BV,1,none⟩=some (.int .u32 (a2:Nat))∧w'.cell? ⟨BV,2,none⟩=some (.int .u32 (a3:Nat))∧w'.cell? ⟨BV,3,none⟩=some (.int .u32 (a4:Nat)))∧
               w'.cell? ⟨BV,4,none⟩=some (.int .u32 (a5:Nat))∧w'.cell? ⟨BV,5,none⟩=some (.int .u32 (a6:Nat))∧w'.cell? ⟨BV,6,none⟩=some (.int .u32 (a7:Nat))∧w'.cell? ⟨BV,7,none⟩=some (.int .u32 (a8:Nat)):=by
              intro w' hb
              refine⟨⟨?_,?_,?_,?_⟩,?_,?_,?_,?_⟩ <;> (rw[hb.cell];rfl)
             have VF:=zH cf
             clear cf
             obtain⟨p6,b6,e6⟩:∃p,p<4294967296∧rotr a5 6=p:=⟨_,rotr_lt _ _,rfl⟩
             obtain⟨p11,b11,e11⟩:∃p,p<4294967296∧rotr a5 11=p:=⟨_,rotr_lt _ _,rfl⟩
             obtain⟨p25,b25,e25⟩:∃p,p<4294967296∧rotr a5 25=p:=⟨_,rotr_lt _ _,rfl⟩
             obtain⟨p2,b2,e2⟩:∃p,p<4294967296∧rotr a1 2=p:=⟨_,rotr_lt _ _,rfl⟩
             obtain⟨p13,b13,e13⟩:∃p,p<4294967296∧rotr a1 13=p:=⟨_,rotr_lt _ _,rfl⟩
             obtain⟨p22,b22,e22⟩:∃p,p<4294967296∧rotr a1 22=p:=⟨_,rotr_lt _ _,rfl⟩
             have HE:=zC (And.intro e6 (And.intro e11 e25)) e2 e13 e22
             obtain⟨y1,by1,hy1,ey1⟩:=x32 p6 p11 b6 b11
             obtain⟨y2,by2,hy2,ey2⟩:=x32 y1 p25 by1 b25
             obtain⟨z1,bz1,hz1,ez1⟩:=x32 p2 p13 b2 b13
             obtain⟨z2,bz2,hz2,ez2⟩:=x32 z1 p22 bz1 b22
             obtain⟨n1,bn1,hn1,en1⟩:∃n:Nat,n<4294967296∧bits .xor .u32 (if IntKind.u32.signed=true then -1 else IntKind.u32.max) (a5:Int)=(n:Int)∧Hid (n=4294967295 - a5):=⟨_,by omega,not32 a5 l5,zH rfl⟩
             obtain⟨y3,by3,hy3,ey3⟩:=a32 a5 a6 l5 l6
             obtain⟨y4,by4,hy4,ey4⟩:=a32 n1 a7 bn1 l7
             obtain⟨y5,by5,hy5,ey5⟩:=x32 y3 y4 by3 by4
             obtain⟨j1,bj1,hj1,ej1⟩:=a32 a1 a2 l1 l2
             obtain⟨j2,bj2,hj2,ej2⟩:=a32 a1 a3 l1 l3
             obtain⟨j3,bj3,hj3,ej3⟩:=x32 j1 j2 bj1 bj2
             obtain⟨j4,bj4,hj4,ej4⟩:=a32 a2 a3 l2 l3
             obtain⟨j5,bj5,hj5,ej5⟩:=x32 j3 j4 bj3 bj4
             all_goals
              obtain⟨⟨m1,m2,m3,m4⟩,m5,m6,m7,m8⟩:=VF.out wr hb
              go_wp2_with fail
              go_quiet ((exact Calls.quiet_of (turnZ _ _ (by assumption) (by decide) (by decide) _)))
              have hb':Blk (wr.drewN nq) BV (Ws (stL ⟨a1,a2,a3,a4,a5,a6,a7,a8⟩)).toArray 226:=hb
              have hcv':=hcv.drewN nq
              obtain⟨kc,wc⟩:(wr.drewN nq).cell? ⟨BK,j,none⟩=some (.int .u32 (k:Nat))∧(wr.drewN nq).cell? ⟨BW,j,none⟩=some (.int .u32 (x:Nat)):=CF.out
              clear m1 m2 m3 m4 m5 m6 m7 m8 hb hcv e6 e11 e25 hy1 hy2 CF
              generalize wr.drewN nq=w12 at *
              obtain⟨⟨m1,m2,m3,m4⟩,m5,m6,m7,m8⟩:=VF.out w12 hb'
              go_wp2_with fail
              go_quiet (fail)
              obtain⟨t,bt,ht,et⟩:∃t:Nat,t<4294967296∧(((a8:Int)+y2+y5+k) % 4294967296+x) % 4294967296=(t:Int)∧Hid (t=(a8+y2+y5+k+x) % m32):=⟨(a8+y2+y5+k+x) % m32,Nat.mod_lt _ (by decide),by simp[m32],zH rfl⟩
              rw[ht]
              have hb2:Blk (w12.drewN nq) BV (Ws (stL ⟨a1,a2,a3,a4,a5,a6,a7,a8⟩)).toArray 226:=hb'
              have hcv2:=hcv'.drewN nq
              clear ht hn1 hy3 hy4 hy5 m1 m2 m3 m4 m5 m6 m7 m8 kc wc hb' hcv'
              generalize w12.drewN nq=w13 at *
              obtain⟨⟨m1,m2,m3,m4⟩,m5,m6,m7,m8⟩:=VF.out w13 hb2
              go_wp2_with fail
              go_quiet ((exact Calls.quiet_of (turnZ _ _ (by assumption) (by decide) (by decide) _)))
              have hb3:Blk (w13.drewN nq) BV (Ws (stL ⟨a1,a2,a3,a4,a5,a6,a7,a8⟩)).toArray 226:=hb2
              have hcv3:=hcv2.drewN nq
              clear m1 m2 m3 m4 m5 m6 m7 m8 hb2 hcv2 e2 e13 e22 hz1 hz2
              generalize w13.drewN nq=w14 at *
              obtain⟨⟨m1,m2,m3,m4⟩,m5,m6,m7,m8⟩:=VF.out w14 hb3
              obtain⟨na,bna,hna,ena⟩:∃u':Nat,u'<4294967296∧((t:Int)+z2+j5) % 4294967296=(u':Int)∧Hid (u'=(t+(z2+j5) % m32) % m32):=⟨(t+(z2+j5) % m32) % m32,Nat.mod_lt _ (by decide),by simp[m32,Int.add_assoc],zH rfl⟩
              obtain⟨ne,bne,hne,ene⟩:∃u':Nat,u'<4294967296∧((a4:Int)+t) % 4294967296=(u':Int)∧Hid (u'=(a4+t) % m32):=⟨(a4+t) % m32,Nat.mod_lt _ (by decide),by simp[m32],zH rfl⟩
              have hR:rounds S W (j+1) 0=⟨na,a1,a2,a3,ne,a5,a6,a7⟩:=by
               rw[HST.out]
               unfold round
               simp only
               have q1:S1 a5=y2:=by unfold S1;rw[ey2.out,ey1.out,HE.out.1.1,HE.out.1.2.1,HE.out.1.2.2]
               have q2:ch a5 a6 a7=y5:=by unfold ch;rw[ey5.out,ey3.out,ey4.out,en1.out];rfl
               have q3:S0 a1=z2:=by unfold S0;rw[ez2.out,ez1.out,HE.out.2.1,HE.out.2.2.1,HE.out.2.2.2]
               have q4:maj a1 a2 a3=j5:=by unfold maj;rw[ej5.out,ej3.out,ej1.out,ej2.out,ej4.out]
               rw[q1,q2,q3,q4,←et.out,←ena.out,←ene.out]
              have HR:=zH hR;clear hR
              go_wp2_with (refine wpList_stA rfl 226 _ _ rfl (cs:=(Ws (stL ⟨na,a1,a2,a3,ne,a5,a6,a7⟩)).toArray) hb3 (arr8 _ rfl) rfl (Ws_one _) rfl rfl ?_;intro w15 hb15 hc15 hs15)
              go_roundg (gk - 1)
              case measure=>have:=HJ.out;omega
              case rel=>exact⟨j+1,by go_num,by have:=HJ.out;omega,by rw[HR.out];exact hb15,hcv3.tr hc15⟩
            ·have hj64:j=64:=by omega
             subst hj64
             obtain⟨wt,hwt⟩:∃wt:World,wt=wr:=⟨_,rfl⟩
             rw[←hwt] at hb hcv
             subst hwt
             have hmm:=HMX.out (rounds S W 64 0) rfl
             have hwf6:=rounds_wf W S HWF.out 64
             generalize rounds S W 64 0=T at *
             have hH7:=hH6.chg hcv (by have:=HBV.out;simp;omega)
             have hW7:=hW6.chg hcv (by have:=HBV.out;simp;omega)
             have hc7:Chg [BW,BH] w6 wt:=hc116.trans hcv (by have:=HBV.out;simp;omega)
             rw[←addL_zero S T] at hH7
             have HMM:=zH hmm
             have HWT:=zH hwf6
             clear hmm hwf6 hH6 hW6 hcv hc116 hK6' hjk hj HMX
             go_wp2_with fail
             go_loopg [22] 8 (fun k vi wr=>∃j:Nat,vi=.int .i64 j∧j+k=8∧Blk wr BH (Ws (addL S T j)).toArray 223∧Chg [BH] wt wr)
             case atStart=>exact⟨0,rfl,by omega,hH7,Chg.refl _ _⟩
             case round=>
              clear hH7
              obtain⟨j,rfl,hjk,hb8,hc8⟩:=hrel
              by_cases hj:j<8
              ·have t8:decide ((j:Int)<8)=true:=by simp;omega
               have i8:(j:Int)<8:=by omega
               have hst:=addL_set S T j hj
               have lx:=stL_lt T HWT.out j hj
               have ls:=stL_lt S HWF.out j hj
               have x0:wr.cell? ⟨BH,j,none⟩=some (.int .u32 ((stL S).getD j 0:Nat)):=by
                rw[hb8.cell,List.getElem?_toArray,Ws_get _ _ (by rw[addL_len];exact hj),addL_get S T j hj]
               have f0:=hb8.frozen j
               have x1:wr.cell? ⟨BV,j,none⟩=some (.int .u32 ((stL T).getD j 0:Nat)):=by
                rw[(hb.chg hc8 (by have:=HBV.out;simp;omega)).cell,List.getElem?_toArray,Ws_get _ _ hj]
               generalize (stL T).getD j 0=x at *
               generalize (stL S).getD j 0=y at *
               have hb9:=(hb8.set j (.int .u32 (((y+x) % m32:Nat):Int))).drew
               have hc9:=(hc8.setCell (p:=⟨BH,j,none⟩) (by simp) (.int .u32 (((y+x) % m32:Nat):Int))).drew
               rw[List.setIfInBounds_toArray,Ws_set,hst] at hb9
               have e4:(((y+x) % m32:Nat):Int)=((y:Int)+x) % 4294967296:=by simp[m32]
               rw[e4] at hb9 hc9
               have HJ:=zH hjk
               clear e4 hst hjk
               as_aux_lemma=>
                go_wp2_with fail
                go_region
                generalize (wr.setCell ⟨BH,j,none⟩ (.int .u32 (((y:Int)+x) % 4294967296))).drew=w17 at *
                go_wp2_with fail
                go_roundg (gk - 1)
                case measure=>have:=HJ.out;omega
                case rel=>exact⟨j+1,by go_num,by have:=HJ.out;omega,hb9,hc9⟩
              ·have hj8:j=8:=by omega
               subst hj8
               have hW9:=hW7.chg hc8 (by have:=HNE.out;simp;omega)
               have hc9:Chg [BW,BH] w6 wr:=hc7.trans hc8 (by simp)
               rw[←HMM.out,←HSN.out] at hb8
               go_wp2_with fail
               go_roundg (GK - 1)
               case measure=>have:=HIK.out;have:=HGK.out;omega
               case rel=>exact⟨i+1,a+64,W,by go_num,by have:=HIK.out;have:=HGK.out;omega,by have:=HIK.out;omega,HWL.out,hW9,hb8,hc9⟩
      ·have hi:i=L / 64:=by have:=HPM.out;omega
       have hcw:Chg [] w wo:=hc06.trans hcr (by have:=HNE.out;have:=HKH.out;simp;omega)
       have hwf:=blocks_wf M s0 HWF0.out i
       have hsum:=HSUM.out
       rw[←hi] at hsum
       have ta:decide ((a:Int)<(L:Int))=false:=by simp;omega
       have ta':decide (a<L)=false:=by simp;omega
       generalize blocks M i 0 s0=T at *
       rw[←outL_all] at hsum
       have HS:=zH hsum
       have HWF:=zH hwf
       clear hsum hwf hik hai hi hlt HSUM hcr hc06 hom6 hK6 hbW hWp HPM HKH HNE HGM HML HWF0 hv HNIL
       subst hwo
       go_wp2_with fail
       go_loopg [23,24] 8 (fun k vo vi wr=>∃(j:Nat),vi=.int .i64 j∧j+k=8∧Fresh wo wr 5 1 vo (4 * j) (Bs (outL T j)))
       case atStart=>exact⟨0,rfl,by omega,Fresh.nil _ _ _⟩
       case round=>
        obtain⟨j,rfl,hjk,hf⟩:=hrel
        by_cases hj:j<8
        ·have t8:decide ((j:Int)<8)=true:=by simp;omega
         have i8:(j:Int)<8:=by omega
         have lx:=stL_lt T HWF.out j hj
         have hos:=outL_succ T j hj
         have hcl:∀w':World,Chg [] wo w'→w'.cell? ⟨BH,j,none⟩=some (.int .u32 ((stL T).getD j 0:Nat)):=fun w' hc=>by
          rw[(hbH.chg0 hc).cell,List.getElem?_toArray,Ws_get _ _ hj]
         have x0:=hcl wr hf.chg
         generalize (stL T).getD j 0=x at *
         have HCL:=zH hcl;clear hcl
         have hbe:=Bs_be4 x
         have HOS:=zH hos
         have HBE:=zH hbe
         have HJK:=zH hjk
         clear hos hjk hbe hbH
         as_aux_lemma=>
          have hfA:=(hf.to ((Chg.refl [] wr).alloc (.cells #[.int .u8 ((x:Int) / 16777216 % 256),.int .u8 ((x:Int) / 65536 % 256),.int .u8 ((x:Int) / 256 % 256),.int .u8 ((x:Int) % 256)] 5)).drew)
          go_wp2_with fail
          go_region_held3 (fun w'=>w'.cell? ⟨BH,j,none⟩=some (.int .u32 (x:Nat))) (first | go_keep | exact HCL.out _ hF3.chg) ((refine step_appF (w0:=wo) (by rfl) _ _ 36 (by rfl) sl_u8 (by exact hfA) (by rfl) (Sees.row (cs:=#[.int .u8 ((x:Int) / 16777216 % 256),.int .u8 ((x:Int) / 65536 % 256),.int .u8 ((x:Int) / 256 % 256),.int .u8 ((x:Int) % 256)]) (by exact Blk.new wr _ 5) (m:=4) rfl) (by rfl) (by simp[Value.oneCell']) (by omega) (by omega) ?_;intro v3 w3 hF3 c3))
          all_goals
           go_wp2_with fail
           go_roundg (gk - 1)
           case measure=>have:=HJK.out;omega
           case rel=>
            refine⟨j+1,by go_num,by have:=HJK.out;omega,?_⟩
            rw[HOS.out,Bs_append,HBE.out]
            exact hF3
        ·have hj8:j=8:=by omega
         subst hj8
         go_wp2_with fail
         go_ret
         exact⟨_,rfl,by rw[HS.out];exact hf.base hcw⟩
    ·obtain⟨i,hki⟩:∃i,gk=i+1:=⟨gk - 1,by omega⟩
     have hbi':bi=(i:Int):=by omega
     have hj7:j'=7 - i:=by omega
     have hi7:i≤7:=by omega
     subst hbi'
     have hget:=beB_get N j' (by omega)
     have hts:=List.take_succ_eq_append_getElem (l:=beB N 8) (i:=j') (by rw[beB_length];omega)
     rw[hget,show 7 - j'=i by omega] at hts
     have hev:(((UInt8.ofNat (N / 2^(8 * i))).toNat:Nat):Int)=(N:Int) / 2^(8 * i) % 256:=by
      rw[UInt8.toNat_ofNat']
      simp
     have HTS:=zH hts
     have HEV:=zH hev
     have HK:=zB hki hj7 hjk
     clear hget hts hev hki hj7 hjk hbi hk0
     as_aux_lemma=>
      go_wp2_with (at_builtin;refine wpList_appF (w0:=w2) rfl _ _ 36 rfl sl_u8 (by exact hf.to ((Chg.refl [] wr).alloc (.cells #[.int .u8 ((N:Int) / 2^(8 * i) % 256)] 5))) rfl (Sees.row (cs:=#[.int .u8 ((N:Int) / 2^(8 * i) % 256)]) (by exact Blk.new wr _ 5) (m:=1) rfl) rfl (by simp[Value.oneCell']) (by omega) (by omega) ?_;intro v5 w5 hF5 c5)
      go_roundg i
      case measure=>have:=HK.out;omega
      case rel=>
       refine⟨j'+1,mm+1,_,rfl,by have:=HK.out;omega,by have:=HK.out;omega,by have:=HMM.out;omega,?_⟩
       rw[HTS.out,←List.append_assoc,Bs_append (base++_)]
       have:Bs [UInt8.ofNat (N / 2^(8 * i))]=[.int .u8 ((N:Int) / 2^(8 * i) % 256)]:=by simp only[Bs,List.map_cons,List.map_nil,Bc,HEV.out]
       rw[this]
       exact hF5
end Go.Proofs.YtlidiclfpklliaaGreatDoor
