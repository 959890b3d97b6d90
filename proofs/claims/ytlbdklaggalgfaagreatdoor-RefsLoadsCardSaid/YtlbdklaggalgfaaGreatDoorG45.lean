/- RWordD RWordE RWordF -/
import Derived.Test.YtlbdklaggalgfaaGreatDoorG43
set_option linter.unusedVariables false
set_option maxHeartbeats 8000000
namespace Go.Aq.Wd
def rescL (r:List UInt8):Nat×Nat×Nat:=match escO r with
 | some k=>(k,(writ k).length,0)
 | none=>if escShort r then (0,0,2) else (0,0,4)
def shF (r:List UInt8) (i:Nat):Bool:=(List.range i).any fun c=>special c&&decide (r.length<(writ c).length)&&r.isPrefixOf (writ c)
theorem shF_succ (r:List UInt8) (i:Nat):shF r (i+1)=(shF r i || (special i&&decide (r.length<(writ i).length)&&r.isPrefixOf (writ i))):=by
 unfold shF;rw[List.range_succ,List.any_append];simp
theorem special_lt (c:Nat) (h:special c=true):c<160:=by
 simp only[special,low,Bool.or_eq_true,Bool.and_eq_true,beq_iff_eq,decide_eq_true_eq] at h;omega
theorem resc_none (r:List UInt8) (h:∀c,c<160→special c=true→(writ c).isPrefixOf r=false):rescL r=if shF r 160 then (0,0,2) else (0,0,4):=by
 have hn:escO r=none:=(escO_none r).2 fun c hc=>by
  have hs:=(mem_escs c).1 hc;exact h c (special_lt c hs) hs
 have he:escShort r=shF r 160:=by
  unfold escShort shF;rw[Bool.eq_iff_iff,List.any_eq_true,List.any_eq_true];constructor
  ·rintro⟨c,hc,hp⟩;have hs:=(mem_escs c).1 hc;refine⟨c,List.mem_range.2 (special_lt c hs),?_⟩;have hp':=List.isPrefixOf_iff_prefix.1 hp;have hle:=hp'.length_le;have hne:r.length≠(writ c).length:=fun e=>by
    have:=hp'.eq_of_length e;have h2:=h c (special_lt c hs) hs;rw[this] at h2;rw[List.isPrefixOf_iff_prefix.2 (List.prefix_refl _)] at h2;simp at h2
   rw[hs,hp,decide_eq_true (by omega)];rfl
  ·rintro⟨c,hc,hp⟩;simp only[Bool.and_eq_true,decide_eq_true_eq] at hp;exact⟨c,(mem_escs c).2 hp.1.1,hp.2⟩
 unfold rescL;rw[hn,he]
theorem resc_some (r:List UInt8) (c:Nat) (hs:special c=true) (h:(writ c).isPrefixOf r=true):rescL r=(c,(writ c).length,0):=by
 unfold rescL;rw[escO_is r c ((mem_escs c).2 hs) h]
theorem take_prefix (r W:List UInt8) (h:W.length≤r.length):((str (r.take W.length)).toList==(str W).toList)=W.isPrefixOf r:=by
 rw[str_toList,str_toList,Bool.eq_iff_iff,beq_iff_eq,List.isPrefixOf_iff_prefix];constructor;·intro e;rw[←e];exact List.take_prefix _ _
 ·intro e;exact (List.prefix_iff_eq_take.1 e).symm
theorem text_or:∀k,k<160→(192 ||| k / 64)=192+k / 64∧(128 ||| k % 64)=128+k % 64:=by decide+kernel
theorem enc1_160 (k:Nat) (h1:128≤k) (h2:k<160):enc1 k=[UInt8.ofNat (192+k / 64),UInt8.ofNat (128+k % 64)]:=by
 unfold enc1;rw[if_neg (by omega),if_pos (by omega)]
end Go.Aq.Wd
namespace Go.Proofs.YtlbdklaggalgfaaGreatDoor
open Go.RowKit Go.Aq Go.Aq.Wd
theorem rtextc_any (k:Nat) (hk:k<160) (w:World):
  Calls Tryz.prog 182 #[.int .i64 k] w fun e w'=>e=.returned (.string (str (enc1 k)))∧Chg [] w w':=by
 by_cases h:k<128
 ·have t1:decide ((k:Int)<128)=true:=by simp;omega
  have t1':decide (k<128)=true:=by simp;omega
  rw[enc1_low k h];have eb:=Bc_ofNat k (by omega);have r1:∀w:World,(convert 38 9 (.slice (some ⟨w.heap.size,0,none⟩) 1 1)).run Tryz.prog (w.alloc (.cells #[.int .u8 (k:Nat)] 5))=.ok (.string (str [UInt8.ofNat k])) (w.alloc (.cells #[.int .u8 (k:Nat)] 5)):=fun w=>by
   rw[eb];exact run_str8 (Sees.row (cs:=#[Bc (UInt8.ofNat k)]) (by exact Blk.new _ _ _) rfl)
  have hkb:(k:Int)<160:=by omega
  clear eb h;go_enter Tryz.func182,Tryz.ntmps182;go_wp2_with fail;go_ret;exact⟨rfl,(Chg.refl _ _).alloc _⟩
 ·have t1:decide ((k:Int)<128)=false:=by simp;omega
  have t1':decide (k<128)=false:=by simp;omega
  rw[enc1_160 k (by omega) hk];have eb:=Bc_ofNat (192+k / 64) (by omega);have ec:=Bc_ofNat (128+k % 64) (by omega);obtain⟨o1,o2⟩:=text_or k hk;have b1:bits .or .i64 192 ((k / 64:Nat):Int)=((192+k / 64:Nat):Int):=by rw[←o1];exact (bits_i64 192 (k / 64) (by omega) (by omega)).2.1
  have b2:bits .or .i64 128 ((k % 64:Nat):Int)=((128+k % 64:Nat):Int):=by rw[←o2];exact (bits_i64 128 (k % 64) (by omega) (by omega)).2.1
  have b3:bits .and .i64 (k:Int) 63=((k % 64:Nat):Int):=i64mask k 63 6 (by omega) (by decide) (by decide);have dv:(k:Int) / 64=((k / 64:Nat):Int):=by simp
  have q1:192+k / 64<256:=by omega
  have q2:128+k % 64<256:=by omega
  generalize 192+k / 64=x1 at *;generalize 128+k % 64=x2 at *;generalize k / 64=y1 at *;generalize k % 64=y2 at *;have r1:∀w:World,(convert 38 9 (.slice (some ⟨w.heap.size,0,none⟩) 2 2)).run Tryz.prog (w.alloc (.cells #[.int .u8 (x1:Nat),.int .u8 (x2:Nat)] 5))=.ok (.string (str [UInt8.ofNat x1,UInt8.ofNat x2])) (w.alloc (.cells #[.int .u8 (x1:Nat),.int .u8 (x2:Nat)] 5)):=fun w=>by
   rw[eb,ec];exact run_str8 (Sees.row (cs:=#[Bc (UInt8.ofNat x1),Bc (UInt8.ofNat x2)]) (by exact Blk.new _ _ _) rfl)
  have hkb:(k:Int)<160:=by omega
  have q1':(x1:Int)<256:=by omega
  have q2':(x2:Int)<256:=by omega
  clear eb ec o1 o2 h;go_enter Tryz.func182,Tryz.ntmps182;go_wp2_with fail;go_ret;exact⟨rfl,(Chg.refl _ _).alloc _⟩
set_option maxRecDepth 100000 in
theorem rescape_any (l:List UInt8) (p:Nat) (w:World) (hp:p≤l.length) (hl:l.length≤1000000000):
  Calls Tryz.prog 181 #[.string (str l),.int .i64 p] w fun e w'=>e=.returned (.tuple #[.int .i64 (rescL (l.drop p)).1,.int .i64 (rescL (l.drop p)).2.1,.int .i64 (rescL (l.drop p)).2.2])∧Chg [] w w':=by
 have hsz:=str_size l;have hfr:=str_from l p;have hrl:(l.drop p).length=l.length - p:=List.length_drop;have hsr:=str_size (l.drop p);have hrb:(l.drop p).length≤1000000000:=by omega
 clear hrl;generalize l.drop p=r at *;go_enter Tryz.func181,Tryz.ntmps181;go_wp2_with fail;go_loopg [7,8] 160 (fun k vs vc wr=>∃(c:Nat),vs=.bool (shF r c)∧vc=.int .i64 c∧c+k=160∧Chg [] w wr∧Hid (∀d,d<c→special d=true→(writ d).isPrefixOf r=false));case atStart=>exact⟨0,rfl,rfl,rfl,Chg.refl _ _,fun d h=>absurd h (by omega)⟩
 case round=>
  obtain⟨c,rfl,rfl,hck,hc,HA⟩:=hrel;by_cases h160:c<160
  ·have t1:decide ((c:Int)<160)=true:=by simp;omega
   have t1':decide (c<160)=true:=by simp;omega
   have hw:=rwritten_any c (by omega);have hsu:=shF_succ r c;have hcb:(c:Int)≤160:=by omega
   have hso:=resc_some r c;have htp:=take_prefix r (writ c);have htq:=take_prefix (writ c) r;have hu1:=str_upto r (writ c).length;have hu2:=str_upto (writ c) r.length;have hsw:=str_size (writ c);have hw6:=writ_le c;have hrw:rwrit c=if special c then writ c else []:=rfl
   have hwn:=writ_ne c;cases hsp:special c with
   | false=>
    rw[hsp] at hsu hrw;simp only[Bool.false_and,Bool.or_false] at hsu;have e1:(str (rwrit c)).toList.isEmpty=true:=by rw[str_toList,hrw];rfl
    have HSU:=zH hsu;have HB:Hid (∀d,d<c+1→special d=true→(writ d).isPrefixOf r=false):=fun d hd hs=>by
     by_cases h:d<c;·exact HA.out d h hs
     ·obtain rfl:d=c:=by omega
      rw[hsp] at hs;simp at hs
    have HP:=zA hck h160;clear hsu hrw hck hsp hso htp htq hu1 hu2 hsw hwn hw6;generalize rwrit c=W0 at *;go_wp2_with fail;refine (hw wr).mono ?_;rintro e w3 ⟨rfl,c3⟩;clear hw;go_wp2_with fail;go_roundg (gk - 1);case measure=>have:=HP.out;omega
    case rel=>exact⟨c+1,by rw[HSU.out],by go_num,by have:=HP.out;omega,hc.nil c3,HB⟩
   | true=>
    rw[hsp] at hsu hrw;rw[if_pos rfl] at hrw;simp only[Bool.true_and] at hsu;rw[hrw] at hw;have e1:(str (writ c)).toList.isEmpty=false:=by
     rw[str_toList];cases hx:writ c with
     | nil=>exact absurd hx hwn
     | cons a t=>rfl
    have hso:=hso hsp;have HP:=zA hck h160;by_cases hle:(writ c).length≤r.length
    ·have t2:decide (((writ c).length:Int)≤(r.length:Int))=true:=by simp;omega
     have t2':decide ((writ c).length≤r.length)=true:=by simp;omega
     have hcmp:=htp hle;cases hpre:(writ c).isPrefixOf r with
     | true=>
      have HS:=zH (hso hpre);rw[hpre] at hcmp;clear hsu hck hsp hso htp htq hwn hrw hpre hu2 h160;generalize writ c=W at *;go_wp2_with fail;refine (hw wr).mono ?_;rintro e w3 ⟨rfl,c3⟩;clear hw;go_wp2_with fail
      go_ret3
      exact⟨by rw[HS.out];rfl,hc.nil c3⟩
     | false=>
      rw[hpre] at hcmp;have t3:decide ((r.length:Int)<((writ c).length:Int))=false:=by simp;omega
      have t3':decide (r.length<(writ c).length)=false:=by simp;omega
      rw[t3'] at hsu;simp only[Bool.false_and,Bool.or_false] at hsu;have HSU:=zH hsu;have HB:Hid (∀d,d<c+1→special d=true→(writ d).isPrefixOf r=false):=fun d hd hs=>by
       by_cases h:d<c;·exact HA.out d h hs
       ·obtain rfl:d=c:=by omega
        exact hpre
      clear hsu hck hsp hso htp htq hwn hrw hpre hu2 h160;generalize writ c=W at *;generalize hsh:shF r c=sh at *;cases sh with
      | true=>
       have HSH:=zH hsh;clear hsh;go_wp2_with fail;refine (hw wr).mono ?_;rintro e w3 ⟨rfl,c3⟩;clear hw;go_wp2_with fail;go_roundg (gk - 1);case measure=>have:=HP.out;omega
       case rel=>exact⟨c+1,by rw[HSU.out],by go_num,by have:=HP.out;omega,hc.nil c3,HB⟩
      | false=>
       have HSH:=zH hsh;clear hsh;go_wp2_with fail;refine (hw wr).mono ?_;rintro e w3 ⟨rfl,c3⟩;clear hw;go_wp2_with fail;go_roundg (gk - 1);case measure=>have:=HP.out;omega
       case rel=>exact⟨c+1,by rw[HSU.out],by go_num,by have:=HP.out;omega,hc.nil c3,HB⟩
    ·have t2:decide (((writ c).length:Int)≤(r.length:Int))=false:=by simp;omega
     have t2':decide ((writ c).length≤r.length)=false:=by simp;omega
     have t3:decide ((r.length:Int)<((writ c).length:Int))=true:=by simp;omega
     have t3':decide (r.length<(writ c).length)=true:=by simp;omega
     have hcmp:=htq (by omega);rw[t3'] at hsu;simp only[Bool.true_and] at hsu;have HSU:=zH hsu;have hpf:(writ c).isPrefixOf r=false:=by
      rw[Bool.eq_false_iff];intro h;exact hle ((List.isPrefixOf_iff_prefix.1 h).length_le)
     have HB:Hid (∀d,d<c+1→special d=true→(writ d).isPrefixOf r=false):=fun d hd hs=>by
      by_cases h:d<c;·exact HA.out d h hs
      ·obtain rfl:d=c:=by omega
       exact hpf
     have hrw6:r.length≤(writ c).length:=by omega
     clear hsu hck hsp hso htp htq hwn hrw hu1 h160 hpf hle;generalize r.isPrefixOf (writ c)=pf at *;generalize writ c=W at *;generalize shF r c=sh at *;cases sh with
     | true=>
      go_wp2_with fail;refine (hw wr).mono ?_;rintro e w3 ⟨rfl,c3⟩;clear hw;go_wp2_with fail;go_roundg (gk - 1);case measure=>have:=HP.out;omega
      case rel=>exact⟨c+1,by rw[HSU.out];rfl,by go_num,by have:=HP.out;omega,hc.nil c3,HB⟩
     | false=>
      go_wp2_with fail;refine (hw wr).mono ?_;rintro e w3 ⟨rfl,c3⟩;clear hw;go_wp2_with fail;go_roundg (gk - 1);case measure=>have:=HP.out;omega
      case rel=>exact⟨c+1,by rw[HSU.out];rfl,by go_num,by have:=HP.out;omega,hc.nil c3,HB⟩
  ·have t1:decide ((c:Int)<160)=false:=by simp;omega
   have t1':decide (c<160)=false:=by simp;omega
   obtain rfl:c=160:=by omega
   have HN:=zH (resc_none r HA.out);generalize hsh:shF r 160=sh at *;have HSH:=zH hsh;clear hsh h160 t1 t1';cases sh with
   | true=>
    go_wp2_with fail
    go_ret3
    exact⟨by rw[HN.out];rfl,hc⟩
   | false=>
    go_wp2_with fail
    go_ret3
    exact⟨by rw[HN.out];rfl,hc⟩
end Go.Proofs.YtlbdklaggalgfaaGreatDoor
namespace Go.Aq.Wd
theorem cut_take (l:List UInt8) (p q:Nat):(l.take q).drop p=(l.drop p).take (q - p):=by
 rw[List.drop_take]
end Go.Aq.Wd
namespace Go.Proofs.YtlbdklaggalgfaaGreatDoor
open Go.RowKit Go.Aq Go.Aq.Wd
def wdV (t:List UInt8) (at_ e:Nat):Value:=.tuple #[.string (str (if e=0 then t else [])),.int .i64 (at_:Nat),.int .i64 (e:Nat)]
def plV (l:List UInt8) (p:Nat):Value:=wdV ((l.drop p).take (plainW (l.drop p)).1) (p+(plainW (l.drop p)).1) (if (plainW (l.drop p)).2 then 0 else 4)
theorem plV_true {l:List UInt8} {p q:Nat} (h:plainW (l.drop p)=(q - p,true)) (hpq:p≤q):plV l p=.tuple #[.string (str ((l.drop p).take (q - p))),.int .i64 (q:Nat),.int .i64 0]:=by
 have e1:p+(q - p)=q:=by omega
 simp only[plV,wdV,h,e1,if_true];rfl
theorem plV_false {l:List UInt8} {p q:Nat} (h:plainW (l.drop p)=(q - p,false)) (hpq:p≤q):plV l p=.tuple #[.string (str []),.int .i64 (q:Nat),.int .i64 4]:=by
 have e1:p+(q - p)=q:=by omega
 simp only[plV,wdV,h,e1,Bool.false_eq_true,if_false];rfl
set_option maxRecDepth 100000 in
theorem rplain_any (l:List UInt8) (p:Nat) (w:World) (hp:p≤l.length) (hl:l.length≤1000000000):
  Calls Tryz.prog 137 #[.string (str l),.int .i64 p] w fun e w'=>e=.returned (plV l p)∧w'=w:=by
 have hsz:=str_size l;have hpb:(p:Int)≤1000000000:=by omega
 go_enter Tryz.func137,Tryz.ntmps137;go_wp2_with fail;go_loopg [7] l.length (fun k vq wr=>∃(q:Nat),vq=.int .i64 q∧q+k=p+l.length∧p≤q∧q≤l.length∧wr=w∧Hid (plainW (l.drop p)=(q - p+(plainW (l.drop q)).1,(plainW (l.drop q)).2)));case atStart=>exact⟨p,rfl,by omega,by omega,hp,rfl,by show _=_;rw[Nat.sub_self,Nat.zero_add]⟩
 case round=>
  obtain⟨q,rfl,hqk,hpq,hql,rfl,HI⟩:=hrel;have hqb:(q:Int)≤1000000000:=by omega
  by_cases hq:q<l.length
  ·have r1:decide ((q:Int)<(l.length:Int))=true:=by simp;omega
   have r1':decide (q<l.length)=true:=by simp;omega
   have hr:=drop_ne l q hq;have ix:=fun w'=>idxS w' l q hq
   have hst:=plainW_step _ hr;have h32:=head32 _ hr;have hhd:(l.drop q).headD 0=l[q]:=by rw[List.drop_eq_getElem_cons hq];rfl
   have hx32:l[q]=32↔(l[q]).toNat=32:=⟨fun h=>by rw[h];rfl,fun h=>by rw[←u8e _ _ h];rfl⟩;rw[hhd,hx32] at h32;have hsg:=rsign_any l q wr hq hl;have hfit:=dec_fits l q hq;have hdp:=dec_pos (l.drop q);have hd1:=dec_fst (l.drop q);have hdd:(l.drop q).drop (dec (l.drop q)).2=l.drop (q+(dec (l.drop q)).2):=by rw[List.drop_drop]
   rw[hdd] at hst;clear hdd hhd hx32 hr;have hdec32:=dec_ascii 32;by_cases hx:(l[q]).toNat=32
   ·have hc32:=h32.2 hx;have hbad:(bad (dec (l.drop q)) || low (dec (l.drop q)).1)=false:=by
     rw[hc32,show dec (l.drop q)=((dec (l.drop q)).1,(dec (l.drop q)).2) from rfl,hc32,not_bad 32 _ (by omega)];rfl
    rw[hbad,hc32] at hst;simp only[Bool.false_eq_true,if_false,if_true] at hst;rw[hx] at ix;have HS:Hid (plainW (l.drop p)=(q - p,true)):=by show _=_;rw[HI.out,hst];simp
    have hex:(str l).extract p q=str ((l.drop p).take (q - p)):=by rw[str_extract,cut_take]
    clear hst h32 hx hsg hfit hdp hd1 hc32 hbad hdec32 HI;go_wp2_with fail
    go_ret3
    exact⟨by rw[plV_true HS.out (by assumption)];rfl,rfl⟩
   ·have t32:(((l[q]).toNat:Int) != 32)=true:=jN (by omega);have hc32:(dec (l.drop q)).1≠32:=fun h=>hx (h32.1 h)
    rw[if_neg hc32] at hst;clear h32 hx hdec32 hc32;generalize (l[q]).toNat=x at *;generalize dec (l.drop q)=d at *;obtain⟨c,n⟩:=d;simp only at hst hfit hdp hd1;cases hb:bad (c,n) with
    | true=>
     rw[show goodO (c,n)=none by unfold goodO;rw[hb];rfl] at hsg;rw[hb] at hst;simp only[Bool.true_or,if_true] at hst;have HS:Hid (plainW (l.drop p)=(q - p,false)):=by show _=_;rw[HI.out,hst];simp
     clear hst hb hfit hdp hd1 HI;go_wp2_with fail;refine hsg.mono ?_;rintro e w2 ⟨rfl,rfl⟩;unfold sgV;go_wp2_with fail
     go_ret3
     exact⟨by rw[plV_false HS.out (by assumption)];rfl,rfl⟩
    | false=>
     rw[show goodO (c,n)=some (c,n) by unfold goodO;rw[hb];rfl] at hsg;rw[hb] at hst;simp only[Bool.false_or] at hst;have hct:=rcontrol_any c hd1;cases hlow:low c with
     | true=>
      rw[hlow,if_pos rfl] at hst;rw[hlow] at hct;have HS:Hid (plainW (l.drop p)=(q - p,false)):=by show _=_;rw[HI.out,hst];simp
      clear hst hb hfit hdp HI hlow;go_wp2_with fail;refine hsg.mono ?_;rintro e w2 ⟨rfl,rfl⟩;unfold sgV;go_wp2_with fail;refine (hct _).mono ?_;rintro e w3 ⟨rfl,rfl⟩;go_wp2_with fail
      go_ret3
      exact⟨by rw[plV_false HS.out (by assumption)];rfl,rfl⟩
     | false=>
      rw[hlow] at hst hct;simp only[Bool.false_eq_true,if_false] at hst;by_cases h34:c=34
      ·subst h34;rw[if_pos rfl] at hst;have HS:Hid (plainW (l.drop p)=(q - p,false)):=by show _=_;rw[HI.out,hst];simp
       clear hst hb hfit hdp HI hlow;go_wp2_with fail;refine hsg.mono ?_;rintro e w2 ⟨rfl,rfl⟩;unfold sgV;go_wp2_with fail;refine (hct _).mono ?_;rintro e w3 ⟨rfl,rfl⟩;go_wp2_with fail
       go_ret3
       exact⟨by rw[plV_false HS.out (by assumption)];rfl,rfl⟩
      ·have t34:((c:Int)==34)=false:=jB (by omega);rw[if_neg h34] at hst;have HS:Hid (plainW (l.drop p)=(q+n - p+(plainW (l.drop (q+n))).1,(plainW (l.drop (q+n))).2)):=by
        show _=_;rw[HI.out,hst];simp only[Prod.mk.injEq,and_true];omega
       have HP:=zC hqk hdp hfit hpq;have hn4:(n:Int)≤1000000000:=by omega
       clear hst hb hfit hdp HI hlow h34 hqk;go_wp2_with fail;refine hsg.mono ?_;rintro e w2 ⟨rfl,rfl⟩;unfold sgV;go_wp2_with fail;refine (hct _).mono ?_;rintro e w3 ⟨rfl,rfl⟩;go_wp2_with fail;go_roundg (gk - n);case measure=>have:=HP.out;omega
       case rel=>exact⟨q+n,by go_num,by have:=HP.out;omega,by have:=HP.out;omega,by have:=HP.out;omega,rfl,HS⟩
  ·have r1:decide ((q:Int)<(l.length:Int))=false:=by simp;omega
   have r1':decide (q<l.length)=false:=by simp;omega
   obtain rfl:q=l.length:=by omega
   have HS:Hid (plainW (l.drop p)=(l.length - p,true)):=by show _=_;rw[HI.out,List.drop_length,plainW_nil];rfl
   have hex:(str l).extract p l.length=str ((l.drop p).take (l.length - p)):=by rw[str_extract,cut_take]
   clear HI hq;go_wp2_with fail
   go_ret3
   exact⟨by rw[plV_true HS.out (by assumption)];rfl,rfl⟩
def qtV (l:List UInt8) (p:Nat):Value:=wdV (quotW (l.drop (p+1))).1 (p+1+(quotW (l.drop (p+1))).2.1) (quotW (l.drop (p+1))).2.2
theorem qtV_ok {l:List UInt8} {p q:Nat} {t:List UInt8} (h:quotW (l.drop (p+1))=(t,q - (p+1),0)) (hpq:p+1≤q):qtV l p=.tuple #[.string (str t),.int .i64 (q:Nat),.int .i64 0]:=by
 have e1:p+1+(q - (p+1))=q:=by omega
 simp only[qtV,wdV,h,e1,if_true];rfl
theorem qtV_err {l:List UInt8} {p q e:Nat} (h:(quotW (l.drop (p+1))).2=(q - (p+1),e)) (he:e≠0) (hpq:p+1≤q):qtV l p=.tuple #[.string (str []),.int .i64 (q:Nat),.int .i64 (e:Nat)]:=by
 have e1:p+1+(q - (p+1))=q:=by omega
 simp only[qtV,wdV,h,e1,if_neg he]
set_option maxRecDepth 100000 in
theorem rquoted_any (l:List UInt8) (p:Nat) (w:World) (hp:p<l.length) (hl:l.length≤1000000000):
  Calls Tryz.prog 136 #[.string (str l),.int .i64 p] w fun e w'=>e=.returned (qtV l p)∧Chg [] w w':=by
 have hsz:=str_size l;have hpb:(p:Int)≤1000000000:=by omega
 go_enter Tryz.func136,Tryz.ntmps136;go_wp2_with fail;go_loopg [7,8] l.length (fun k vo vq wr=>∃(q:Nat) (acc:List UInt8),vo=.string (str acc)∧vq=.int .i64 q∧q+k=p+1+l.length∧p+1≤q∧q≤l.length∧acc.length≤4 * q∧Chg [] w wr∧
  Hid (quotW (l.drop (p+1))=(acc++(quotW (l.drop q)).1,q - (p+1)+(quotW (l.drop q)).2.1,(quotW (l.drop q)).2.2)))
 case atStart=>exact⟨p+1,[],rfl,by go_num,by omega,by omega,by omega,by simp,Chg.refl _ _,by show _=_;simp⟩
 case round=>
  obtain⟨q,acc,rfl,rfl,hqk,hpq,hql,hacc,hc,HI⟩:=hrel;have hqb:(q:Int)≤1000000000:=by omega
  have hsa:=str_size acc;by_cases hq:q<l.length
  ·have r1:decide ((q:Int)<(l.length:Int))=true:=by simp;omega
   have r1':decide (q<l.length)=true:=by simp;omega
   have hr:=drop_ne l q hq;have hst:=quotW_step _ hr;have hsg:=rsign_any l q wr hq hl;have hfit:=dec_fits l q hq;have hdp:=dec_pos (l.drop q);have hd1:=dec_fst (l.drop q);have hgood:=dec_good _ hr;have hdd:∀m,(l.drop q).drop m=l.drop (q+m):=fun m=>by rw[List.drop_drop]
   have hrl:(l.drop q).length=l.length - q:=List.length_drop;simp only[hdd] at hst;clear hr;cases hb:bad (dec (l.drop q)) with
   | true=>
    rw[show goodO (dec (l.drop q))=none by unfold goodO;rw[hb];rfl] at hsg;rw[hb] at hst;simp only[Bool.true_or,if_true] at hst;have HS:Hid ((quotW (l.drop (p+1))).2=(q - (p+1),4)):=by show _=_;rw[HI.out,hst];simp
    clear hst hb hfit hdp HI hd1 hgood hdd hrl;go_wp2_with fail;refine hsg.mono ?_;rintro e w2 ⟨rfl,rfl⟩;unfold sgV;go_wp2_with fail
    go_ret3
    exact⟨by rw[qtV_err HS.out (by decide) (by assumption)];rfl,hc⟩
   | false=>
    obtain⟨hokc,hn,hlq⟩:=hgood hb;rw[show goodO (dec (l.drop q))=some (dec (l.drop q)) by unfold goodO;rw[hb];rfl] at hsg;rw[hb] at hst;simp only[Bool.false_or] at hst;have hcut:(l.take (q+(dec (l.drop q)).2)).drop q=enc1 (dec (l.drop q)).1:=by
     rw[cut_take,Nat.add_sub_cancel_left,hlq.trans rfl];have:(enc1 (dec (l.drop q)).1++List.drop (dec (l.drop q)).2 (l.drop q)).take (dec (l.drop q)).2=enc1 (dec (l.drop q)).1:=by
      conv=>lhs;arg 1;rw[hn]
      exact List.take_left
     rw[←hlq];rw[←hlq] at this;exact this
    generalize dec (l.drop q)=d at *;obtain⟨c,n⟩:=d;simp only at hst hfit hdp hd1 hokc hcut;have hct:=rcontrol_any c hd1;have hex:=str_extract l q (q+n);rw[hcut] at hex;clear hgood hb hn hlq hcut;cases hlow:low c with
    | true=>
     rw[hlow,if_pos rfl] at hst;rw[hlow] at hct;have HS:Hid ((quotW (l.drop (p+1))).2=(q - (p+1),4)):=by show _=_;rw[HI.out,hst];simp
     clear hst hfit hdp HI hlow hdd hrl hokc hex;go_wp2_with fail;refine hsg.mono ?_;rintro e w2 ⟨rfl,rfl⟩;unfold sgV;go_wp2_with fail;refine (hct _).mono ?_;rintro e w3 ⟨rfl,rfl⟩;go_wp2_with fail
     go_ret3
     exact⟨by rw[qtV_err HS.out (by decide) (by assumption)];rfl,hc⟩
    | false=>
     rw[hlow] at hst hct;simp only[Bool.false_eq_true,if_false] at hst;by_cases h34:c=34
     ·subst h34;rw[if_pos rfl] at hst;have HS:Hid (quotW (l.drop (p+1))=(acc,q+1 - (p+1),0)):=by
       show _=_;rw[HI.out,hst];simp only[List.append_nil,Prod.mk.injEq,true_and,and_true];omega
      clear hst hfit hdp HI hlow hdd hrl hokc hex;have hpq2:p+1≤q+1:=by omega
      go_wp2_with fail;refine hsg.mono ?_;rintro e w2 ⟨rfl,rfl⟩;unfold sgV;go_wp2_with fail;refine (hct _).mono ?_;rintro e w3 ⟨rfl,rfl⟩;go_wp2_with fail
      go_ret3
      exact⟨by rw[qtV_ok HS.out hpq2];rfl,hc⟩
     ·have t34:((c:Int)==34)=false:=jB (by omega);rw[if_neg h34] at hst;by_cases h92:c=92
      ·subst h92;rw[if_pos rfl] at hst;have hes:=fun w'=>rescape_any l q w' hql hl
       have hso:=escO_some (l.drop q);have hrs:rescL (l.drop q)=match escO (l.drop q) with | some k=>(k,(writ k).length,0) | none=>if escShort (l.drop q) then (0,0,2) else (0,0,4):=rfl
       cases ho:escO (l.drop q) with
       | some k=>
        rw[ho] at hst hrs;simp only at hst hrs;obtain⟨hk1,hk2⟩:=hso k ho;have hk160:=special_lt k ((mem_escs k).1 hk1);have hwl:=(List.isPrefixOf_iff_prefix.1 hk2).length_le;have hw1:1≤(writ k).length:=List.length_pos_iff.2 (writ_ne k);have hw6:=writ_le k;rw[hrl] at hwl;rw[hrs] at hes;have htx:=fun w'=>rtextc_any k hk160 w'
        have hap:str acc++str (enc1 k)=str (acc++enc1 k):=str_app _ _;have hek:=enc1_len k;have hse:=str_size (enc1 k);have HS:Hid (quotW (l.drop (p+1))=(acc++enc1 k++(quotW (l.drop (q+(writ k).length))).1,q+(writ k).length - (p+1)+(quotW (l.drop (q+(writ k).length))).2.1,(quotW (l.drop (q+(writ k).length))).2.2)):=by
         show _=_;rw[HI.out,hst];simp only[List.append_assoc,Prod.mk.injEq,and_true,true_and];omega
        have hacc2:(acc++enc1 k).length≤4 * (q+(writ k).length):=by rw[List.length_append];omega
        have HP:=zD hqk hw1 hwl hpq hacc2;have hk2b:(k:Int)<160:=by omega
        have hse2:(str (enc1 k)).size≤4:=by omega
        clear hst hfit hdp HI hlow hdd hrl hokc hex h34 hso ho hk1 hk2 hwl hw1 hqk hrs hek hse hacc2;generalize (writ k).length=m at *;generalize enc1 k=E at *;generalize acc++E=acc2 at *;go_wp2_with fail;refine hsg.mono ?_;rintro e w2 ⟨rfl,rfl⟩;unfold sgV;go_wp2_with fail;refine (hct _).mono ?_;rintro e w3 ⟨rfl,rfl⟩;clear hsg hct;go_wp2_with fail;refine (hes _).mono ?_;rintro e w4 ⟨rfl,c4⟩;clear hes;go_wp2_with fail;refine (htx _).mono ?_;rintro e w5 ⟨rfl,c5⟩;clear htx;go_wp2_with fail;go_roundg (gk - m);case measure=>have:=HP.out;omega
        case rel=>exact⟨q+m,acc2,rfl,by go_num,by have:=HP.out;omega,by have:=HP.out;omega,by have:=HP.out;omega,by have:=HP.out;omega,(hc.nil c4).nil c5,HS⟩
       | none=>
        rw[ho] at hst hrs;simp only at hst hrs;cases hsh:escShort (l.drop q) with
        | true=>
         rw[hsh,if_pos rfl] at hst hrs;rw[hrs] at hes;have HS:Hid ((quotW (l.drop (p+1))).2=(l.length - (p+1),2)):=by
          show _=_;rw[HI.out,hst];simp only[Prod.mk.injEq,and_true];omega
         have hpl:p+1≤l.length:=by omega
         clear hst hfit hdp HI hlow hdd hrl hokc hex h34 hso ho hsh hqk hrs;go_wp2_with fail;refine hsg.mono ?_;rintro e w2 ⟨rfl,rfl⟩;unfold sgV;go_wp2_with fail;refine (hct _).mono ?_;rintro e w3 ⟨rfl,rfl⟩;clear hsg hct;go_wp2_with fail;refine (hes _).mono ?_;rintro e w4 ⟨rfl,c4⟩;clear hes;go_wp2_with fail
         go_ret3
         exact⟨by rw[qtV_err HS.out (by decide) hpl];rfl,hc.nil c4⟩
        | false=>
         rw[hsh] at hst hrs;simp only[Bool.false_eq_true,if_false] at hst hrs;rw[hrs] at hes;have HS:Hid ((quotW (l.drop (p+1))).2=(q - (p+1),4)):=by show _=_;rw[HI.out,hst];simp
         clear hst hfit hdp HI hlow hdd hrl hokc hex h34 hso ho hsh hqk hrs;go_wp2_with fail;refine hsg.mono ?_;rintro e w2 ⟨rfl,rfl⟩;unfold sgV;go_wp2_with fail;refine (hct _).mono ?_;rintro e w3 ⟨rfl,rfl⟩;clear hsg hct;go_wp2_with fail;refine (hes _).mono ?_;rintro e w4 ⟨rfl,c4⟩;clear hes;go_wp2_with fail
         go_ret3
         exact⟨by rw[qtV_err HS.out (by decide) (by assumption)];rfl,hc.nil c4⟩
      ·have t92:((c:Int)==92)=false:=jB (by omega);rw[if_neg h92] at hst;have hap:str acc++str (enc1 c)=str (acc++enc1 c):=str_app _ _;have hek:=enc1_len c;have hse:(str (enc1 c)).size≤4:=by rw[str_size];omega
       have HS:Hid (quotW (l.drop (p+1))=(acc++enc1 c++(quotW (l.drop (q+n))).1,q+n - (p+1)+(quotW (l.drop (q+n))).2.1,(quotW (l.drop (q+n))).2.2)):=by
        show _=_;rw[HI.out,hst];simp only[List.append_assoc,Prod.mk.injEq,and_true,true_and];omega
       have hacc2:(acc++enc1 c).length≤4 * (q+n):=by rw[List.length_append];omega
       have HP:=zD hqk hdp hfit hpq hacc2;have hpn:q+n≤l.length:=hfit;clear hst hdp HI hlow hdd hrl hokc h34 h92 hqk hek hacc2 hfit;generalize enc1 c=E at *;generalize acc++E=acc2 at *;go_wp2_with fail;refine hsg.mono ?_;rintro e w2 ⟨rfl,rfl⟩;unfold sgV;go_wp2_with fail;refine (hct _).mono ?_;rintro e w3 ⟨rfl,rfl⟩;clear hsg hct;go_wp2_with fail;go_roundg (gk - n);case measure=>have:=HP.out;omega
       case rel=>exact⟨q+n,acc2,rfl,by go_num,by have:=HP.out;omega,by have:=HP.out;omega,by have:=HP.out;omega,by have:=HP.out;omega,hc,HS⟩
  ·have r1:decide ((q:Int)<(l.length:Int))=false:=by simp;omega
   have r1':decide (q<l.length)=false:=by simp;omega
   obtain rfl:q=l.length:=by omega
   have HS:Hid ((quotW (l.drop (p+1))).2=(l.length - (p+1),2)):=by show _=_;rw[HI.out,List.drop_length,quotW_nil];rfl
   clear HI hq;go_wp2_with fail
   go_ret3
   exact⟨by rw[qtV_err HS.out (by decide) (by assumption)];rfl,hc⟩
end Go.Proofs.YtlbdklaggalgfaaGreatDoor
