/- FyG FyH -/
import Derived.Test.YtlbdklaggalgfaaGreatDoorG08
set_option linter.unusedSimpArgs false
set_option linter.unusedVariables false
set_option maxHeartbeats 4000000
namespace Go.Aq
theorem Blk.c4b {w:World} {p:Nat} {a b c d:Value} {t:TypeId} (h:Blk w p #[a,b,c,d] t):
  (w.cell? ⟨p,0,none⟩=some a∧w.cell? ⟨p,1,none⟩=some b∧w.cell? ⟨p,2,none⟩=some c∧w.cell? ⟨p,3,none⟩=some d)∧w.frozen? ⟨p,0,none⟩=false∧w.frozen? ⟨p,1,none⟩=false∧w.frozen? ⟨p,2,none⟩=false∧w.frozen? ⟨p,3,none⟩=false:=
 ⟨⟨h.cell 0,h.cell 1,h.cell 2,h.cell 3⟩,h.frozen 0,h.frozen 1,h.frozen 2,h.frozen 3⟩
end Go.Aq
namespace Go.Aq.Fy
open Go.Aq Go.RowKit
theorem putD_code (D:DiskD) (k:Nat) (b:Sec):(putD D k b).2=0∧(putD D k b).1.down=D.down∨(putD D k b).2=12:=by
 unfold putD;split;·exact .inl ⟨rfl,rfl⟩
 ·split;·exact .inr rfl
  ·exact .inl ⟨rfl,rfl⟩
theorem crashD_n (D:DiskD) (m:Sec):(crashD D m).n=D.n:=by unfold crashD;split <;> rfl
theorem crashD_pend (D:DiskD) (m:Sec):(crashD D m).pend.length≤D.pend.length:=by unfold crashD;split <;> simp
theorem putD_n (D:DiskD) (k:Nat) (b:Sec):(putD D k b).1.n=D.n:=by
 unfold putD;split;·rfl
 ·split;·exact crashD_n _ _
  ·rfl
theorem putD_pend (D:DiskD) (k:Nat) (b:Sec):(putD D k b).1.pend.length≤D.pend.length+1:=by
 unfold putD;split;·simp
 ·split;·exact Nat.le_trans (crashD_pend _ _) (by simp)
  ·simp
theorem writeD_put {D:DiskD} {k:Nat} {b:Sec} (hd:D.down=false) (hk:k<D.n) (hb:b.length=256):writeD D k b=putD D k b:=by
 unfold writeD;rw[hd,if_neg (by decide),if_neg (by omega),if_neg (by omega)]
theorem wIq {a b:Int} (h:wrap64 a=b):IntKind.i64.wrap a=b:=by rw[IntKind.wrap_i64];unfold wrap64 at h;omega
end Go.Aq.Fy
namespace Go.Proofs.YtlbdklaggalgfaaGreatDoor
open Go.RowKit Go.Aq Go.Aq.Fy Go.Maps
theorem PendR.lens {w:World} {S:List Nat}:∀{l:Puts} {xs:List Value},PendR w S l xs→∀q∈l,q.2.length=256
 | _,_,.cons h1 h2,q,hq=>by
  rcases List.mem_cons.1 hq with rfl | hq
  ·exact h1.len
  ·exact PendR.lens h2 q hq
set_option maxRecDepth 100000 in
theorem writes_ok (w:World) (S:List Nat) (p:Nat) (D:DiskD) (h:DiskR w S p D) (hd:D.down=false) (l:Puts) (hp:D.pend.length+l.length≤900000) (hk:∀q∈l,q.1<D.n) (v:Value) (xs:List Value) (hs:Sees w 2 v l.length xs) (hx:PendR w S l xs) (ho:Disj (eyes v) S):
  Calls Tryz.prog 90 #[.pointer (some ⟨p,0,none⟩),v] w fun e w'=>e=.returned (.int .i64 (writesD D l).2)∧∃S',DiskR w' S' p (writesD D l).1∧Upd S S' w w':=by
 obtain⟨m,hm⟩:∃m,l.length=m:=⟨_,rfl⟩;rw[hm] at hs hp;obtain⟨ao,cap,rfl,-⟩:=hs.shape;have HM:=zH hm;have HS:=zB hs hx ho;have HK:=zH hk;have HB:=zH hp;have HH:=zA h hd;clear hm hs hx ho hk hp h hd;go_enter Tryz.func90,Tryz.ntmps90;go_wp2_with fail;go_loopg [10] m (fun k (v10:Value) wr=>∃(i:Nat) (S':List Nat) (Di:DiskD),v10=.int .i64 (i:Int)∧i≤m∧k=m - i∧DiskR wr S' p Di∧Upd S S' w wr∧Hid (Di.down=false∧Di.n=D.n∧Di.pend.length≤D.pend.length+i∧eachD D l=eachD Di (l.drop i)));case atStart=>exact⟨0,S,D,rfl,by omega,by omega,HH.out.1,Upd.refl _ _,HH.out.2,rfl,Nat.le_refl _,rfl⟩
 case round=>
  obtain⟨i,S',Di,rfl,hi,hk1,hR,hU,hI⟩:=hrel;by_cases him:i<m
  ·have t1:decide ((i:Int)<(m:Int))=true:=decide_eq_true (by omega);have him':i<l.length:=by rw[HM.out];exact him
   have hpd:PendR wr S' l xs:=HS.out.2.1.upd hU;have hsw:Sees wr 2 (.slice ao m cap) m xs:=HS.out.1.chg hU.chg HS.out.2.2;obtain⟨g',off',cap',a5,q5,e1,hmc,x0,x1,hsv⟩:=hpd.cells hsw HM.out him';injection e1 with e1 _ e2;subst e1 e2;have hkn:(l[i]).1<Di.n:=by rw[hI.out.2.1];exact HK.out _ (List.getElem_mem him')
   have hdrop:l.drop i=l[i]::l.drop (i+1):=List.drop_eq_getElem_cons him';generalize l[i]=pt at *;obtain⟨pk,pb⟩:=pt;simp only at x0 hsv hkn;have hca:Chg [] wr (wr.alloc (.cells #[.int .i64 pk,.slice a5 256 q5] 166)):=(Chg.refl [] wr).alloc _;have hbx:Blk (wr.alloc (.cells #[.int .i64 pk,.slice a5 256 q5] 166)) wr.heap.size #[.int .i64 pk,.slice a5 256 q5] 166:=Blk.new _ _ _;obtain⟨⟨z0,z1⟩,-⟩:=hbx.c2;have hwr:=write_ok (wr.alloc (.cells #[.int .i64 pk,.slice a5 256 q5] 166)) S' p Di pk pb (.slice a5 256 q5) (hR.chg hca) hI.out.1 hkn (by have:=hI.out.2.2.1;have:=HB.out;omega) (hsv.chg hca (by simp));have hwd:=writeD_put hI.out.1 hkn hsv.len;have hstep:eachD Di (l.drop i)=if (putD Di pk pb).2=0 then eachD (putD Di pk pb).1 (l.drop (i+1)) else putD Di pk pb:=by
    rw[hdrop];simp only[eachD,hwd]
   have hu1:Upd S S' w (wr.alloc (.cells #[.int .i64 pk,.slice a5 256 q5] 166)):=hU.nil hca;have hcode:=putD_code Di pk pb;have hpn:=putD_n Di pk pb;have hpp:=putD_pend Di pk pb;have hwi:Hid (wrap64 ((i:Int)+1)=(i:Int)+1):=by have:=HB.out;show _=_;unfold wrap64;omega
   have HQ:=zD hk1 hstep hu1 hpn hpp;clear hk1 hstep hu1 hpn hpp hpd hsw hmc hsv hkn hdrop hwd hbx hca hR hU hi him';generalize putD Di pk pb=R at *;obtain⟨D2,c2⟩:=R;simp only at hcode hwr;rcases hcode with ⟨rfl,hdn⟩ | rfl
   ·go_wp2_with fail;refine hwr.mono ?_;rintro e w2 ⟨rfl,S2,hR2,hU2⟩;have HD2:=zH hdn;clear hwr x0 x1 z0 z1 hdn;go_wp2_with fail;go_roundg (gk - 1);case measure=>have:=HQ.out.1;omega
    case rel=>
     have hi1:i+1≤m:=him;obtain⟨q1,q2,q3,q4,q5⟩:=HQ.out;refine⟨i+1,S2,D2,by rw[hwi.out];rfl,hi1,by omega,hR2,q3.trans hU2,?_⟩;have:=hI.out.2.2.1;exact⟨by rw[HD2.out];exact hI.out.1,by rw[q4];exact hI.out.2.1,by omega,by rw[hI.out.2.2.2,q2];simp⟩
   ·go_wp2_with fail;refine hwr.mono ?_;rintro e w2 ⟨rfl,S2,hR2,hU2⟩;clear hwr x0 x1 z0 z1;go_wp2_with fail;go_ret;obtain⟨q1,q2,q3,q4,q5⟩:=HQ.out;have he:eachD D l=(D2,12):=by rw[hI.out.2.2.2,q2];simp
    have hw:writesD D l=(D2,12):=by unfold writesD;rw[he];simp
    rw[hw];exact⟨rfl,S2,hR2,q3.trans hU2⟩
  ·have t1:decide ((i:Int)<(m:Int))=false:=decide_eq_false (by omega);have e:i=m:=by omega
   subst e;have hfl:=flush_ok wr S' p Di hR hI.out.1 (by have:=hI.out.2.2.1;have:=HB.out;omega);have he:eachD D l=(Di,0):=by rw[hI.out.2.2.2,List.drop_of_length_le (by rw[HM.out];exact Nat.le_refl _)];rfl
   have hw:writesD D l=flushD Di:=by unfold writesD;rw[he];simp
   have h2:(flushD Di).2=0:=by unfold flushD;rw[hI.out.1];rfl
   have HW:=zB hw h2 hU;clear hw h2 hU hR he hk1 hi;go_wp2_with fail;refine hfl.mono ?_;rintro e w2 ⟨rfl,S2,hR2,hU2⟩;clear hfl;go_wp2_with fail;go_ret;rw[HW.out.1,HW.out.2.1];exact⟨rfl,S2,hR2,HW.out.2.2.trans hU2⟩
def LogR (w:World) (l p:Nat) (L:LogD):Prop:=Blk w l #[.pointer (some ⟨p,0,none⟩),.int .i64 L.ring,.int .i64 L.seq,.int .i64 L.pos] 173
theorem LogR.chg {w w':World} {S:List Nat} {l p:Nat} {L:LogD} (h:LogR w l p L) (c:Chg S w w') (hl:l∉S):LogR w' l p L:=Blk.chg h c hl
theorem tdiv_nat (a b:Nat):((a:Int)).tdiv (b:Int)=((a / b:Nat):Int):=by
 rw[Int.tdiv_eq_ediv_of_nonneg (by omega)];exact (Int.natCast_ediv a b).symm
theorem tmod_nat (a b:Nat):((a:Int)).tmod (b:Int)=((a % b:Nat):Int):=by
 rw[Int.tmod_eq_emod_of_nonneg (by omega)];exact (Int.natCast_emod a b).symm
theorem need_ok (w:World) (v:Value) (n:Nat) (hn:n≤1000000):
  Calls Tryz.prog 48 #[v,.int .i64 n] w fun e w'=>e=.returned (.int .i64 (need n))∧w'=w:=by
 by_cases h1:n<1
 ·have t1:decide ((n:Int)<1)=true:=decide_eq_true (by omega);have e:need n=0:=by unfold need;rw[if_pos h1]
  rw[e];clear h1 hn;go_enter Tryz.func48,Tryz.ntmps48;go_wp2_with fail;go_ret;exact⟨rfl,rfl⟩
 ·have t1:decide ((n:Int)<1)=false:=decide_eq_false (by omega);have e:need n=n+(n - 1) / 64+1:=by unfold need;rw[if_neg h1]
  have e1:wrap64 ((n:Int) - 1)=((n - 1:Nat):Int):=by unfold wrap64;omega
  have hle:(n - 1) / 64≤n:=Nat.le_trans (Nat.div_le_self _ _) (Nat.sub_le _ _);have e2:=tdiv_nat (n - 1) 64;generalize (n - 1) / 64=q at *;have e3:wrap64 (q:Int)=(q:Int):=by unfold wrap64;omega
  have e4:wrap64 ((n:Int)+(q:Int))=((n+q:Nat):Int):=by unfold wrap64;omega
  have e5:wrap64 (((n+q:Nat):Int)+1)=((n+q+1:Nat):Int):=by unfold wrap64;omega
  rw[e];generalize hs:n+q+1=s at *;generalize hm:n - 1=m at *;generalize hr:n+q=r at *;have e2':((m:Int)).tdiv 64=(q:Int):=e2;clear h1 hn e hle hs hm hr e2;go_enter Tryz.func48,Tryz.ntmps48;go_wp2_with fail;go_ret;exact⟨ret_int e5,rfl⟩
theorem ring_ok (w:World) (l p:Nat) (L:LogD) (h:LogR w l p L):
  Calls Tryz.prog 49 #[.pointer (some ⟨l,0,none⟩)] w fun e w'=>e=.returned (.int .i64 L.ring)∧w'=w:=by
 obtain⟨⟨c0,c1,c2,c3⟩,-⟩:=Blk.c4b h;clear h c0 c2 c3;go_enter Tryz.func49,Tryz.ntmps49;go_wp2_with fail;go_ret;exact⟨rfl,rfl⟩
theorem home_ok (w:World) (l p:Nat) (L:LogD) (h:LogR w l p L) (hr:L.ring<65536):
  Calls Tryz.prog 38 #[.pointer (some ⟨l,0,none⟩)] w fun e w'=>e=.returned (.int .i64 (homeL L))∧w'=w:=by
 obtain⟨⟨c0,c1,c2,c3⟩,-⟩:=Blk.c4b h;have e:wrap64 (2+(L.ring:Int))=((homeL L:Nat):Int):=by unfold wrap64 homeL;omega
 generalize L.ring=r at *;generalize homeL L=q at *;clear h c0 c2 c3 hr;go_enter Tryz.func38,Tryz.ntmps38;go_wp2_with fail;go_ret;exact⟨ret_int (by first | assumption | rfl),rfl⟩
theorem in_ok (w:World) (l p:Nat) (L:LogD) (h:LogR w l p L) (i:Nat) (hi:i≤1000000) (hr:L.ring<65536) (hp:L.pos<65536) (h0:0<L.ring):
  Calls Tryz.prog 194 #[.pointer (some ⟨l,0,none⟩),.int .i64 i] w fun e w'=>e=.returned (.int .i64 (inL L i))∧∃q,w'=w.drewN q:=by
 obtain⟨⟨c0,c1,c2,c3⟩,-⟩:=Blk.c4b h;have e1:wrap64 ((L.pos:Int)+(i:Int))=((L.pos+i:Nat):Int):=by unfold wrap64;omega
 have e2:=tmod_nat (L.pos+i) L.ring;have hq:inL L i=2+(L.pos+i) % L.ring:=rfl;have hlt:(L.pos+i) % L.ring<L.ring:=Nat.mod_lt _ h0;rw[hq];generalize (L.pos+i) % L.ring=m at *;have e3:wrap64 (2+(m:Int))=((2+m:Nat):Int):=by unfold wrap64;omega
 have z0:((L.ring:Int)==0)=false:=by simp;omega
 have z0':(L.ring==0)=false:=by simp;omega
 have z1:¬(L.ring:Int)=0:=by omega
 have z1':¬L.ring=0:=by omega
 generalize L.pos+i=s at *;generalize L.ring=r at *;generalize L.pos=q at *;generalize 2+m=t at *;have e1w:=wIq e1;have e3w:=wIq e3;clear h c0 c2 hr hp h0 hq hlt hi;go_enter Tryz.func194,Tryz.ntmps194;go_wp2_with fail;go_quiet (fail);go_wp2_with fail;go_ret;exact⟨ret_int (by first | assumption | rfl),nq,rfl⟩
theorem count_ok (w:World) (n:Nat) (hn:n≤1000000):
  Calls Tryz.prog 111 #[.int .i64 n] w fun e w'=>e=.returned (.int .i64 (cnt n))∧w'=w:=by
 have e1:wrap64 ((n:Int)+256)=((n+256:Nat):Int):=by unfold wrap64;omega
 have e2:wrap64 (((n+256:Nat):Int) - 1)=((n+255:Nat):Int):=by unfold wrap64;omega
 have e3:=tdiv_nat (n+255) 256;have e4:((n+255) / 256:Nat)≤n+255:=Nat.div_le_self _ _;have hq:cnt n=(n+255) / 256:=rfl;rw[hq];generalize (n+255) / 256=q at *;have e5:wrap64 (q:Int)=(q:Int):=by unfold wrap64;omega
 generalize n+256=a at *;generalize n+255=b at *;have e3':((b:Int)).tdiv 256=(q:Int):=e3;clear e4 hq hn e3;go_enter Tryz.func111,Tryz.ntmps111;go_wp2_with fail;go_ret;exact⟨ret_int (by first | assumption | rfl),rfl⟩
theorem wrong_no (w:World) (S:List Nat) (p:Nat) (D:DiskD) (h:DiskR w S p D) (r:Nat) (h1:1≤r) (h2:r+4≤D.n):
  Calls Tryz.prog 89 #[.pointer (some ⟨p,0,none⟩),.int .i64 r] w fun e w'=>e=.returned (.bool false)∧w'=w:=by
 have hs:=sectors_ok w S p D h;have hl:=h.lt;have hn:D.n≤4096:=by obtain⟨_,_,_,_,_,_,_,hb,_⟩:=h;exact hb.least.2
 have t1:decide ((r:Int)<1)=false:=decide_eq_false (by omega);have e1:wrap64 ((D.n:Int) - 4)=((D.n - 4:Nat):Int):=by unfold wrap64;omega
 have t2:decide (((D.n - 4:Nat):Int)<(r:Int))=false:=decide_eq_false (by omega);have t3:decide ((D.n - 4:Nat)<r)=false:=decide_eq_false (by omega);generalize D.n - 4=q at *;clear h hl hn h1 h2;go_enter Tryz.func89,Tryz.ntmps89;go_wp2_with fail;refine hs.mono ?_;rintro e w' ⟨rfl,rfl⟩;go_wp2_with fail;go_ret;exact⟨rfl,rfl⟩
end Go.Proofs.YtlbdklaggalgfaaGreatDoor
namespace Go.Aq.Fy
open Go.Aq Go.RowKit
def afterL (c:Nat) (L N:LogD):LogD:=if c=0 then N else L
theorem need_le (n:Nat):need n≤2 * n+1:=by
 unfold need;split;·omega
 ·have:(n - 1) / 64≤n - 1:=Nat.div_le_self _ _;omega
end Go.Aq.Fy
namespace Go.Proofs.YtlbdklaggalgfaaGreatDoor
open Go.RowKit Go.Aq Go.Aq.Fy Go.Maps
theorem sees_notin {w:World} {v:Value} {n l:Nat} {b:List UInt8} {cs:Array Value} {e:TypeId} (h:Sees w 1 v n (Bs b)) (hb:Blk w l cs e) (hcs:∀(i:Nat) x,cs[i]?≠some (.int .u8 x)):l∉eyes v:=by
 intro hl;obtain⟨h1,ao,cap,rfl,_,_,hc⟩:=h;unfold eyes at hl;split at hl
 ·rename_i a n' cap' he;simp only[Value.slice.injEq] at he;obtain⟨rfl,rfl,rfl⟩:=he;split at hl;·simp at hl
  ·rename_i hn;simp only[List.mem_singleton] at hl;have hb0:0<b.length:=by rw[Bs_length] at h1;omega
   have h2:=hc a rfl 0 _ (Bs_get b 0 hb0);have h3:w.cell? a=some (.int .u8 ((b[0]'hb0).toNat:Int)):=by simpa[Addr.add] using h2
   unfold World.cell? at h3;have hb':w.heap[a.block]?=some (.cells cs e (0,0)):=by rw[←hl];exact hb
   rw[hb'] at h3;simp only at h3;split at h3;·cases h3
   ·exact hcs _ _ h3
 ·simp at hl
theorem DiskR.off1 {w w':World} {S:List Nat} {p l:Nat} {D:DiskD} {cs:Array Value} {e:TypeId} (h:DiskR w S p D) (hb:Blk w l cs e) (hcs:∀(i:Nat) x,cs[i]?≠some (.int .u8 x)) (c:Chg [l] w w') (hl:l∉S):DiskR w' S p D:=by
 obtain⟨bn,bd,fn,fd,pv,xs,mv,h,rfl⟩:=h;simp only[List.mem_cons,not_or] at hl;have sec:∀{v:Value} {b:Sec},SecV w (p::bn::bd::pv.ownBlock.toList) v b→SecV w' (p::bn::bd::pv.ownBlock.toList) v b:=fun {v b} hv=>
  ⟨hv.sees.chg c (fun k hk hk'=>by rw[List.mem_singleton.1 hk'] at hk;exact sees_notin hv.sees hb hcs hk),hv.off⟩
 have secs:∀{f:Value→Option Value} {g:Nat→Sec},SecsF w (p::bn::bd::pv.ownBlock.toList) f g→SecsF w' (p::bn::bd::pv.ownBlock.toList) f g:=fun {f g} hf k=>by
  rcases hf k with h1 | ⟨v,h1,h2⟩
  ·exact .inl h1
  ·exact .inr ⟨v,h1,sec h2⟩
 have pend:∀{l:Puts} {xs:List Value},PendR w (p::bn::bd::pv.ownBlock.toList) l xs→PendR w' (p::bn::bd::pv.ownBlock.toList) l xs:=by
  intro l xs hx
  induction hx with
  | nil=>exact .nil
  | cons h1 _ ih=>exact .cons (sec h1) ih
 refine⟨bn,bd,fn,fd,pv,xs,mv,⟨h.blk.chg c (by simpa using fun e=>hl.1 e.symm),h.now.chg c (by simpa using fun e=>hl.2.1 e.symm),h.dur.chg c (by simpa using fun e=>hl.2.2.1 e.symm),h.ne,secs h.nowS,secs h.durS,h.own.chg c (fun k hk=>by simp;rintro rfl;exact hl.2.2.2 hk),pend h.pend,⟨h.mask.1.chg c (fun k hk hk'=>by rw[List.mem_singleton.1 hk'] at hk;exact sees_notin h.mask.1 hb hcs hk),h.mask.2⟩,h.least,h.plc,h.room,h.nil0⟩,rfl⟩
set_option maxRecDepth 100000 in
theorem done_ok (w:World) (S:List Nat) (l p:Nat) (D:DiskD) (L:LogD) (n:Nat) (hD:DiskR w S p D) (hL:LogR w l p L) (hl:l∉S) (hd:D.down=false) (hp:D.pend.length≤800000) (hn:n≤100000) (h0:0<L.ring) (hr:L.ring<65536) (hpos:L.pos<65536) (hq:L.seq<281474976710655):
  Calls Tryz.prog 155 #[.pointer (some ⟨l,0,none⟩),.int .i64 n] w fun e w'=>e=.returned (.int .i64 (writesD D (headL (nextL L n))).2)∧∃S',DiskR w' S' p (writesD D (headL (nextL L n))).1∧
   LogR w' l p (afterL (writesD D (headL (nextL L n))).2 L (nextL L n))∧l∉S'∧Upd (l::S) (l::S') w w':=by
 obtain⟨⟨c0,c1,c2,c3⟩,-⟩:=Blk.c4b hL;have hne:=need_le n;have hnd:=fun w=>need_ok w (.pointer (some ⟨l,0,none⟩)) n (by omega)
 have e1:wrap64 ((L.pos:Int)+(need n:Int))=((L.pos+need n:Nat):Int):=by unfold wrap64;omega
 have e1w:=wIq e1;have e2:=tmod_nat (L.pos+need n) L.ring;have z1:¬(L.ring:Int)=0:=by omega
 have z1':¬L.ring=0:=by omega
 have e3:wrap64 ((L.seq:Int)+1)=((L.seq+1:Nat):Int):=by unfold wrap64;omega
 have e3w:=wIq e3;have hlt:(L.pos+need n) % L.ring<L.ring:=Nat.mod_lt _ h0;have hn0:0<D.n:=by obtain⟨_,_,_,_,_,_,_,hb,_⟩:=hD;have:=hb.least.1;omega
 have hN:nextL L n=⟨L.ring,L.seq+1,(L.pos+need n) % L.ring⟩:=rfl;have HH:=zH (And.intro hD (And.intro hL (And.intro hl (And.intro hd (And.intro hp (And.intro hn0 (And.intro hr (And.intro hq (And.intro hlt hN)))))))));generalize nextL L n=N at *;generalize (L.pos+need n) % L.ring=ps at *;generalize L.pos+need n=sm at *;generalize need n=nd at *;obtain⟨ring,seq,pos⟩:=L;simp only at c0 c1 c2 c3 e1 e1w e2 z1 z1' e3 e3w;have hst:Hid (N.ring=ring∧N.seq=seq+1∧N.pos=ps):=by have:=HH.out.2.2.2.2.2.2.2.2.2;rw[this];exact⟨rfl,rfl,rfl⟩
 obtain⟨sq,hsq⟩:∃sq,seq+1=sq:=⟨_,rfl⟩;rw[hsq] at e3 e3w hst;have HSQ:=zH hsq;clear hsq;clear hD hL hl hd hp hn h0 hr hpos hq hne hlt hn0 hN;go_enter Tryz.func155,Tryz.ntmps155;go_wp2_with fail;go_quiet ((exact Calls.quiet_of_same (hnd _)));go_upto_region 2 with (fail);have cq:Chg [] w (w.drewN nq):=(Chg.refl _ _).drewN nq;generalize w.drewN nq=w1 at *;clear hnd e1 e1w e2 z1 z1';have hLR1:LogR w1 l p _:=HH.out.2.1.chg cq (by simp);have H1:=zB (HH.out.1.chg cq) hLR1 cq;clear hLR1 cq c0 c1 c2 c3;obtain⟨⟨c0,c1,c2,c3⟩,-⟩:=Blk.c4b H1.out.2.1;simp only at c0 c1 c2 c3;obtain⟨W0,hW0⟩:∃W0,w1.drew=W0:=⟨_,rfl⟩;have cd:Chg [] w1 W0:=by rw[←hW0];exact (Chg.refl _ _).drew
 refine wp_region_U S (fun _=>false) (by kernel_rfl) ?_;rw[hW0];clear hW0;have hlS:=HH.out.2.2.1;have y0:=cd.cell_some c0 (by simp);have y1:=cd.cell_some c1 (by simp);have y2:=cd.cell_some c2 (by simp);clear c0 c1 c2 c3;have C0:Chg S W0 W0:=Chg.refl _ _;refine tU 0 (.pointer (some ⟨l,0,none⟩)) C0 (fun w4 c4=>?_) ?_;·go_simp
 refine yG ?_;refine tU 1 (.pointer (some ⟨l,0,none⟩)) C0 (fun w4 c4=>?_) ?_;·go_simp
 refine yG ?_;refine tU 2 (.pointer (some ⟨l,0,none⟩)) C0 (fun w4 c4=>?_) ?_;·go_simp
 refine yG ?_;refine tU 3 (.pointer (some ⟨p,0,none⟩)) C0 (fun w4 c4=>?_) ?_
 ·have z:=c4.cell_some y0 hlS;go_simp
 refine yG ?_;refine tU 4 (.pointer (some ⟨l,0,none⟩)) C0 (fun w4 c4=>?_) ?_;·go_simp
 refine yG ?_;refine tU 5 (.pointer (some ⟨l,0,none⟩)) C0 (fun w4 c4=>?_) ?_;·go_simp
 refine yG ?_;refine tU 6 (.pointer (some ⟨l,1,none⟩)) C0 (fun w4 c4=>?_) ?_;·go_simp
 refine yG ?_;refine tU 7 (.int .i64 ring) C0 (fun w4 c4=>?_) ?_
 ·have z:=c4.cell_some y1 hlS;go_simp
 refine yG ?_;refine tU 8 (.pointer (some ⟨l,0,none⟩)) C0 (fun w4 c4=>?_) ?_;·go_simp
 refine yG ?_;refine tU 9 (.pointer (some ⟨l,0,none⟩)) C0 (fun w4 c4=>?_) ?_;·go_simp
 refine yG ?_;refine tU 10 (.pointer (some ⟨l,2,none⟩)) C0 (fun w4 c4=>?_) ?_;·go_simp
 refine yG ?_;refine tU 11 (.int .i64 seq) C0 (fun w4 c4=>?_) ?_
 ·have z:=c4.cell_some y2 hlS;go_simp
 refine yG ?_;refine tU 12 (.int .i64 sq) C0 (fun w4 c4=>?_) ?_;·go_simp
 refine yG ?_;refine tU 13 (.int .i64 ps) C0 (fun w4 c4=>?_) ?_;·go_simp
 refine yG ?_;refine oU 14 ?_;go_simp;refine (head_any W0 ring sq ps _ _ _ rfl rfl rfl (by exact HH.out.2.2.2.2.2.2.1) (by have h1:=HH.out.2.2.2.2.2.2.2.1;have h2:=HSQ.out;omega) (by have h1:=HH.out.2.2.2.2.2.2.2.2.1;have h2:=HH.out.2.2.2.2.2.2.1;omega)).mono ?_;rintro e w2 ⟨v2,rfl,hF2⟩;refine⟨hF2.chg.toS,?_⟩;refine yG ?_;obtain⟨a2,k2,rfl,-⟩:=hF2.shape;refine tU 15 (.agg #[.int .i64 0,.slice a2 256 k2]) hF2.chg.toS (fun w4 c4=>?_) ?_;·go_simp
 refine yG ?_;refine oU 16 ?_;go_simp;have hcA:Chg [] w2 (w2.alloc (.cells #[.int .i64 0,.slice a2 256 k2] 166)):=(Chg.refl [] _).alloc _;refine⟨(hF2.chg.nil hcA).toS,?_⟩;refine yG ?_;have hbx:Blk (w2.alloc (.cells #[.int .i64 0,.slice a2 256 k2] 166)) w2.heap.size #[.int .i64 0,.slice a2 256 k2] 166:=Blk.new _ _ _;have c03:Chg [] w1 (w2.alloc (.cells #[.int .i64 0,.slice a2 256 k2] 166)):=(cd.nil hF2.chg).nil hcA;have hR3:=H1.out.1.chg c03;have hin:=H1.out.1.lt;have hoff:Disj (eyes (.slice a2 256 k2)) S:=fun j hj hj'=>by
  have h1:=hF2.new j (eyes_own _ j hj);have h2:=hin j hj';have h3:=cd.size;omega
 have hhd:headL N=[(0,headB ring sq ps)]:=by unfold headL;rw[hst.out.1,hst.out.2.1,hst.out.2.2]
 have hwr:=writes_ok _ S p D hR3 HH.out.2.2.2.1 (headL N) (by rw[hhd];have:=HH.out.2.2.2.2.1;simp;omega) (by rw[hhd];intro q hq;simp at hq;rw[hq];exact HH.out.2.2.2.2.2.1) (.slice (some ⟨w2.heap.size,0,none⟩) 1 1) [.int .i64 0,.slice a2 256 k2] (by rw[hhd];exact Sees.blk hbx) (by rw[hhd];exact .cons ⟨hF2.sees.chg0 hcA,hoff⟩ .nil) (fun j hj hj'=>by
  simp[eyes] at hj;subst hj;have h2:=hin _ hj';have h3:=cd.size;have h4:=hF2.chg.size;omega)
 refine oU 17 ?_;go_simp;refine hwr.mono ?_;rintro e w4 ⟨rfl,S4,hR4,hU4⟩;have c4':Chg S W0 w4:=(hF2.chg.nil hcA).toS.tr hU4.chg;refine⟨c4',?_⟩;refine yG ?_;refine tU 18 (.int .i64 (writesD D (headL N)).2) c4' (fun w4 c4=>?_) ?_;·go_simp
 refine yG ?_;refine wpAnyU_done (by kernel_rfl) ?_ _;have hLR4:LogR w4 l p _:=H1.out.2.1.chg (c03.toS.tr hU4.chg) hlS;have hl4:l∉S4:=fun hh=>by
  rcases hU4.new l hh with h1 | h1
  ·exact hlS h1
  ·have:=Blk.lt (LogR.chg H1.out.2.1 c03 (by simp));omega
 have hu4:Upd (l::S) (l::S4) w w4:=by
  refine⟨H1.out.2.2.toS.tr ((c03.toS.tr hU4.chg).mono (fun k hk=>.inl (by simp[hk]))),fun k hk=>?_⟩;rcases List.mem_cons.1 hk with rfl | hk
  ·simp
  ·rcases hU4.new k hk with h1 | h1
   ·simp[h1]
   ·exact .inr (Nat.le_trans (H1.out.2.2.nil c03).size h1)
 have HR:=zC hR4 hLR4 hl4 hu4;clear hR4 hLR4 hl4 hu4 hU4 c4' hwr hoff hin hR3 c03 hbx hcA hF2 C0 y0 y1 y2 cd hhd;generalize hres:writesD D (headL N)=R at *;obtain⟨D4,c⟩:=R;simp only at *;have HRES:=zH hres;clear hres;by_cases hc0:c=0
 ·subst hc0;obtain⟨⟨d0,d1,d2,d3⟩,g0,g1,g2,g3⟩:=Blk.c4b HR.out.2.1;simp only at d0 d1 d2 d3;clear d0 d1 g0 g1;go_wp2_with fail;go_ret;have hb:=(Blk.set HR.out.2.1 2 (.int .i64 sq)).set 3 (.int .i64 ps);simp only[List.setIfInBounds_toArray,List.set_cons_zero,List.set_cons_succ] at hb;obtain⟨w5,hw5⟩:∃w5,(w4.setCell ⟨l,2,none⟩ (.int .i64 sq)).setCell ⟨l,3,none⟩ (.int .i64 ps)=w5:=⟨_,rfl⟩;have c5:Chg [l] w4 w5:=by rw[←hw5];exact ((Chg.refl _ _).setCell (by simp) _).setCell (by simp) _
  rw[hw5] at hb ⊢;obtain⟨hR4,hLR4,hl4,hu4⟩:=HR.out;have hN:N=⟨ring,sq,ps⟩:=by obtain⟨a,b,c⟩:=N;have h1:=hst.out.1;have h2:=hst.out.2.1;have h3:=hst.out.2.2;simp only at h1 h2 h3;rw[h1,h2,h3]
  rw[HRES.out];show _∧∃S',DiskR w5 S' p D4∧LogR w5 l p (afterL 0 _ N)∧_;have ha:∀L,afterL 0 L N=N:=fun L=>rfl
  rw[ha];have hdis:∀k∈[l],k∉S4:=fun k hk=>by rw[List.mem_singleton.1 hk];exact hl4
  refine⟨rfl,S4,DiskR.off1 hR4 hLR4 (fun i x=>by match i with | 0=>simp | 1=>simp | 2=>simp | 3=>simp | i+4=>simp) c5 hl4,by rw[hN];exact hb,hl4,hu4.trans ⟨c5.mono (fun k hk=>.inl (by rw[List.mem_singleton.1 hk];simp)),fun _ h=>.inl h⟩⟩
 ·have t0:((c:Int)==0)=false:=by simp;omega
  have t0':(c==0)=false:=by simp;omega
  have HC:=zH hc0;clear hc0;go_wp2_with fail;go_ret;rw[HRES.out];obtain⟨hR4,hLR4,hl4,hu4⟩:=HR.out;have ha:∀L,afterL c L N=L:=fun L=>if_neg HC.out
  rw[ha];exact⟨rfl,S4,hR4,hLR4,hl4,hu4⟩
end Go.Proofs.YtlbdklaggalgfaaGreatDoor
