/- WordPlain WordDefs WordLaws Bld WordA -/
import Derived.Lib.DecodeN
import Derived.Lib.IndexMore
import Derived.Test.YtlidiclfpklliaaGreatDoorG01
import Derived.Test.YtlidiclfpklliaaGreatDoorShelf
import Derived.Lib.OthersKept
import Derived.Lib.AppendStr
import Derived.Laws.Externs
set_option linter.unusedVariables false
set_option maxHeartbeats 1000000
namespace Go.Aq.Wd
def dec (l:List UInt8):Nat×Nat:=Lib.decodeN l.length (l.getD 0 0).toNat (l.getD 1 0).toNat (l.getD 2 0).toNat (l.getD 3 0).toNat
def bad (d:Nat×Nat):Bool:=d.1==65533&&d.2==1
def okR (c:Nat):Prop:=c<55296∨(57344≤c∧c≤1114111)
instance (c:Nat):Decidable (okR c):=inferInstanceAs (Decidable (_∨_))
def enc1 (c:Nat):List UInt8:=
 if c<128 then [UInt8.ofNat c]
 else if c<2048 then [UInt8.ofNat (192+c / 64),UInt8.ofNat (128+c % 64)]
 else if c<65536 then [UInt8.ofNat (224+c / 4096),UInt8.ofNat (128+c / 64 % 64),UInt8.ofNat (128+c % 64)]
 else [UInt8.ofNat (240+c / 262144),UInt8.ofNat (128+c / 4096 % 64),UInt8.ofNat (128+c / 64 % 64),UInt8.ofNat (128+c % 64)]
theorem enc1_len (c:Nat):1≤(enc1 c).length∧(enc1 c).length≤4:=by
 unfold enc1;repeat' split
 all_goals simp
theorem u8n (n:Nat) (h:n<256):(UInt8.ofNat n).toNat=n:=by rw[UInt8.toNat_ofNat'];exact Nat.mod_eq_of_lt h
theorem u8e (x:UInt8) (n:Nat) (h:x.toNat=n):UInt8.ofNat n=x:=by subst h;simp
theorem dec_enc (c:Nat) (h:okR c) (t:List UInt8):dec (enc1 c++t)=(c,(enc1 c).length):=by
 unfold okR at h
 unfold dec enc1
 by_cases h1:c<128
 ·simp only[if_pos h1,List.cons_append,List.nil_append,List.getD_cons_zero,List.length_cons,List.length_nil]
  rw[u8n c (by omega)]
  simp[Lib.decodeN,h1]
 ·by_cases h2:c<2048
  ·simp only[if_neg h1,if_pos h2,List.cons_append,List.nil_append,List.getD_cons_zero,List.getD_cons_succ,List.length_cons,List.length_nil]
   rw[u8n (192+c / 64) (by omega),u8n (128+c % 64) (by omega)]
   unfold Lib.decodeN
   rw[if_neg (by omega),if_pos (by omega),if_pos (by omega)]
   ext
   ·show (192+c / 64) % 32 * 64+(128+c % 64) % 64=c
    omega
   ·rfl
  ·by_cases h3:c<65536
   ·simp only[if_neg h1,if_neg h2,if_pos h3,List.cons_append,List.nil_append,List.getD_cons_zero,List.getD_cons_succ,List.length_cons,List.length_nil]
    rw[u8n (224+c / 4096) (by omega),u8n (128+c / 64 % 64) (by omega),u8n (128+c % 64) (by omega)]
    unfold Lib.decodeN
    rw[if_neg (by omega),if_neg (by omega),if_pos (by omega),if_pos (by omega)]
    ext
    ·show (224+c / 4096) % 16 * 4096+(128+c / 64 % 64) % 64 * 64+(128+c % 64) % 64=c
     omega
    ·rfl
   ·simp only[if_neg h1,if_neg h2,if_neg h3,List.cons_append,List.nil_append,List.getD_cons_zero,List.getD_cons_succ,List.length_cons,List.length_nil]
    rw[u8n (240+c / 262144) (by omega),u8n (128+c / 4096 % 64) (by omega),u8n (128+c / 64 % 64) (by omega),u8n (128+c % 64) (by omega)]
    unfold Lib.decodeN
    rw[if_neg (by omega),if_neg (by omega),if_neg (by omega),if_pos (by omega),if_pos (by omega)]
    ext
    ·show (240+c / 262144) % 8 * 262144+(128+c / 4096 % 64) % 64 * 4096+(128+c / 64 % 64) % 64 * 64+(128+c % 64) % 64=c
     omega
    ·rfl
theorem bad_iff (d:Nat×Nat):bad d=true↔d=(65533,1):=by
 obtain⟨a,b⟩:=d;simp[bad]
theorem not_bad (c n:Nat) (h:¬(c=65533∧n=1)):bad (c,n)=false:=by
 cases hb:bad (c,n) with
 | false=>rfl
 | true=>rw[bad_iff] at hb;simp only[Prod.mk.injEq] at hb;exact absurd hb h
theorem dec_good (l:List UInt8) (h:l≠[]) (hb:bad (dec l)=false):
  okR (dec l).1∧(dec l).2=(enc1 (dec l).1).length∧l=enc1 (dec l).1++l.drop (dec l).2:=by
 obtain⟨x0,t0,rfl⟩:∃x t,l=x::t:=by cases l;(exact absurd rfl h);exact⟨_,_,rfl⟩
 have b0:=x0.toNat_lt
 unfold dec at hb ⊢
 simp only[List.getD_cons_zero,List.getD_cons_succ,List.length_cons] at hb ⊢
 unfold Lib.decodeN at hb ⊢
 by_cases h1:x0.toNat<128
 ·simp only[if_pos h1] at hb ⊢
  refine⟨.inl (by omega),by simp[enc1,h1],?_⟩
  simp[enc1,h1]
 ·simp only[if_neg h1] at hb ⊢
  split at hb
  ·rename_i h2
   rw[if_pos h2]
   obtain⟨x1,t1,rfl⟩:∃x t,t0=x::t:=by cases t0;(simp at h2);exact⟨_,_,rfl⟩
   have b1:=x1.toNat_lt
   simp only[List.getD_cons_zero,List.length_cons] at hb h2 ⊢
   split at hb
   ·rename_i h3
    rw[if_pos h3]
    have hc:x0.toNat % 32 * 64+x1.toNat % 64<2048:=by omega
    have e:enc1 (x0.toNat % 32 * 64+x1.toNat % 64)=[x0,x1]:=by
     unfold enc1
     rw[if_neg (by omega),if_pos hc,u8e x0 _ (by omega),u8e x1 _ (by omega)]
    refine⟨.inl (by omega),by simp only[e];rfl,by simp only[e];rfl⟩
   ·simp[bad] at hb
  ·rename_i h2
   rw[if_neg h2]
   split at hb
   ·rename_i h3
    rw[if_pos h3]
    obtain⟨x1,t1,rfl⟩:∃x t,t0=x::t:=by cases t0;(simp at h3);exact⟨_,_,rfl⟩
    obtain⟨x2,t2,rfl⟩:∃x t,t1=x::t:=by cases t1;(simp at h3);exact⟨_,_,rfl⟩
    have b1:=x1.toNat_lt
    have b2:=x2.toNat_lt
    simp only[List.getD_cons_zero,List.getD_cons_succ,List.length_cons] at hb h3 ⊢
    split at hb
    ·rename_i h4
     rw[if_pos h4]
     have e:enc1 (x0.toNat % 16 * 4096+x1.toNat % 64 * 64+x2.toNat % 64)=[x0,x1,x2]:=by
      unfold enc1
      rw[if_neg (by omega),if_neg (by omega),if_pos (by omega),u8e x0 _ (by omega),u8e x1 _ (by omega),u8e x2 _ (by omega)]
     refine⟨by unfold okR;simp only;omega,by simp only[e];rfl,by simp only[e];rfl⟩
    ·simp[bad] at hb
   ·rename_i h3
    rw[if_neg h3]
    split at hb
    ·rename_i h4
     rw[if_pos h4]
     obtain⟨x1,t1,rfl⟩:∃x t,t0=x::t:=by cases t0;(simp at h4);exact⟨_,_,rfl⟩
     obtain⟨x2,t2,rfl⟩:∃x t,t1=x::t:=by cases t1;(simp at h4);exact⟨_,_,rfl⟩
     obtain⟨x3,t3,rfl⟩:∃x t,t2=x::t:=by cases t2;(simp at h4);exact⟨_,_,rfl⟩
     have b1:=x1.toNat_lt
     have b2:=x2.toNat_lt
     have b3:=x3.toNat_lt
     simp only[List.getD_cons_zero,List.getD_cons_succ,List.length_cons] at hb h4 ⊢
     split at hb
     ·rename_i h5
      rw[if_pos h5]
      have e:enc1 (x0.toNat % 8 * 262144+x1.toNat % 64 * 4096+x2.toNat % 64 * 64+x3.toNat % 64)=[x0,x1,x2,x3]:=by
       unfold enc1
       rw[if_neg (by omega),if_neg (by omega),if_neg (by omega),u8e x0 _ (by omega),u8e x1 _ (by omega),u8e x2 _ (by omega),u8e x3 _ (by omega)]
      refine⟨by unfold okR;simp only;omega,by simp only[e];rfl,by simp only[e];rfl⟩
     ·simp[bad] at hb
    ·simp[bad] at hb
theorem decN_snd (n b0 b1 b2 b3:Nat):1≤(Lib.decodeN n b0 b1 b2 b3).2∧(Lib.decodeN n b0 b1 b2 b3).2≤4:=by
 unfold Lib.decodeN;repeat' split
 all_goals simp
theorem dec_pos (l:List UInt8):1≤(dec l).2∧(dec l).2≤4:=decN_snd _ _ _ _ _
theorem dec_le (l:List UInt8) (h:l≠[]):(dec l).2≤l.length:=by
 have hp:1≤l.length:=List.length_pos_iff.2 h
 cases hb:bad (dec l) with
 | true=>rw[bad_iff] at hb;rw[hb];exact hp
 | false=>
  obtain⟨-,h2,h3⟩:=dec_good l h hb
  have:=congrArg List.length h3
  rw[List.length_append,List.length_drop,←h2] at this
  omega
def sigsF:Nat→List UInt8→Option (List Nat)
 | 0,_=>some []
 | f+1,l=>if l=[] then some [] else if bad (dec l) then none else (sigsF f (l.drop (dec l).2)).map ((dec l).1::·)
def sigs (l:List UInt8):Option (List Nat):=sigsF l.length l
theorem sigsF_eq:∀(f g:Nat) (l:List UInt8),l.length≤f→l.length≤g→sigsF f l=sigsF g l
 | 0,0,_,_,_=>rfl
 | 0,g+1,l,h,_=>by
  have:l=[]:=List.eq_nil_of_length_eq_zero (by omega)
  simp[sigsF,this]
 | f+1,0,l,_,h=>by
  have:l=[]:=List.eq_nil_of_length_eq_zero (by omega)
  simp[sigsF,this]
 | f+1,g+1,l,hf,hg=>by
  simp only[sigsF]
  split
  ·rfl
  ·split
   ·rfl
   ·rename_i hne _
    have:=dec_pos l
    rw[sigsF_eq f g _ (by rw[List.length_drop];omega) (by rw[List.length_drop];omega)]
theorem sigs_nil:sigs []=some []:=rfl
theorem sigs_step (l:List UInt8) (h:l≠[]):sigs l=if bad (dec l) then none else (sigs (l.drop (dec l).2)).map ((dec l).1::·):=by
 unfold sigs
 have hp:1≤l.length:=List.length_pos_iff.2 h
 obtain⟨n,hn⟩:∃n,l.length=n+1:=⟨l.length - 1,by omega⟩
 rw[hn]
 simp only[sigsF,if_neg h]
 split
 ·rfl
 ·have:=dec_pos l
  rw[sigsF_eq n _ _ (by rw[List.length_drop];omega) (Nat.le_refl _)]
def encL (rs:List Nat):List UInt8:=rs.flatMap enc1
theorem encL_cons (c:Nat) (rs:List Nat):encL (c::rs)=enc1 c++encL rs:=by simp[encL]
theorem encL_append (a b:List Nat):encL (a++b)=encL a++encL b:=by simp[encL]
theorem enc1_ne (c:Nat):enc1 c≠[]:=by have:=enc1_len c;intro h;rw[h] at this;simp at this
theorem sigs_some:∀(n:Nat) (l:List UInt8) (rs:List Nat),l.length≤n→sigs l=some rs→l=encL rs∧∀c∈rs,okR c
 | 0,l,rs,hn,h=>by
  have hl:l=[]:=List.eq_nil_of_length_eq_zero (by omega)
  subst hl
  rw[sigs_nil] at h
  cases h
  exact⟨rfl,by simp⟩
 | n+1,l,rs,hn,h=>by
  by_cases hl:l=[]
  ·subst hl
   rw[sigs_nil] at h
   cases h
   exact⟨rfl,by simp⟩
  ·rw[sigs_step l hl] at h
   cases hb:bad (dec l) with
   | true=>rw[hb] at h;simp at h
   | false=>
    rw[hb] at h
    simp only[Bool.false_eq_true,if_false,Option.map_eq_some_iff] at h
    obtain⟨r,hr,rfl⟩:=h
    obtain⟨h1,h2,h3⟩:=dec_good l hl hb
    have hp:=dec_pos l
    have hlen:1≤l.length:=List.length_pos_iff.2 hl
    obtain⟨e,ok⟩:=sigs_some n (l.drop (dec l).2) r (by rw[List.length_drop];omega) hr
    refine⟨?_,?_⟩
    ·rw[encL_cons,←e];exact h3
    ·intro c hc
     simp only[List.mem_cons] at hc
     rcases hc with rfl | hc
     ·exact h1
     ·exact ok c hc
theorem sigs_enc {l:List UInt8} {rs:List Nat} (h:sigs l=some rs):l=encL rs∧∀c∈rs,okR c:=sigs_some _ l rs (Nat.le_refl _) h
def countL (l:List UInt8):Nat×Nat:=match sigs l with | some rs=>(rs.length,0) | none=>(0,4)
def letter (c:Nat):Bool:=(decide (97≤c)&&decide (c≤122)) || (decide (65≤c)&&decide (c≤90)) || (decide (48≤c)&&decide (c≤57)) || c==45 || c==95 || c==46 || c==47 ||
 (decide (192≤c)&&decide (c≤591)&&c != 215&&c != 247) || (decide (880≤c)&&decide (c≤1279)) || (decide (19968≤c)&&decide (c≤40959))
def low (c:Nat):Bool:=decide (c<32) || (decide (127≤c)&&decide (c≤159))
def dbl:List Nat→Bool
 | a::b::t=>(a==47&&b==47) || dbl (b::t)
 | _=>false
def headBad (c:Nat):Bool:=c==45 || c==46 || c==47
def lastBad (c:Nat):Bool:=c==46 || c==47
def nameR (rs:List Nat):Bool:=decide (1≤rs.length)&&decide (rs.length≤40)&&rs.all letter&&!dbl rs&&!headBad (rs.headD 0)&&!lastBad (rs.getLastD 0)
def nameL (l:List UInt8):Bool:=match sigs l with | some rs=>nameR rs | none=>false
def textR (rs:List Nat):Bool:=decide (rs.length≤200)&&rs.all fun c=>!low c || c==10
def textL (l:List UInt8):Bool:=match sigs l with | some rs=>textR rs | none=>false
theorem enc1_high (c:Nat) (h:128≤c) (hc:okR c):∀x∈enc1 c,128≤x.toNat:=by
 unfold okR at hc
 unfold enc1
 rw[if_neg (by omega)]
 intro x hx
 split at hx
 ·simp only[List.mem_cons,List.not_mem_nil,or_false] at hx
  rcases hx with rfl | rfl <;> rw[u8n _ (by omega)] <;> omega
 ·split at hx
  ·simp only[List.mem_cons,List.not_mem_nil,or_false] at hx
   rcases hx with rfl | rfl | rfl <;> rw[u8n _ (by omega)] <;> omega
  ·simp only[List.mem_cons,List.not_mem_nil,or_false] at hx
   rcases hx with rfl | rfl | rfl | rfl <;> rw[u8n _ (by omega)] <;> omega
theorem enc1_low (c:Nat) (h:c<128):enc1 c=[UInt8.ofNat c]:=by simp[enc1,h]
def has2 (l:List UInt8):Bool:=Lib.contains l [47,47]
theorem has2_nil:has2 []=false:=rfl
theorem has2_cons (b:UInt8) (l:List UInt8):has2 (b::l)=((b==47&&l.headD 0==47) || has2 l):=by
 unfold has2 Lib.contains
 have hge:=Lib.index_ge l [47,47]
 have hp:([47,47]:List UInt8).isPrefixOf (b::l)=(b==47&&l.headD 0==47):=by
  cases l with
  | nil=>simp[List.isPrefixOf]
  | cons x t=>simp[List.isPrefixOf,Bool.beq_eq_decide_eq,eq_comm]
 rw[Lib.index,hp]
 cases hq:(b==47&&l.headD 0==47) with
 | true=>simp
 | false=>
  simp only[Bool.false_eq_true,if_false,Bool.false_or]
  split
  ·rename_i h;rw[beq_iff_eq] at h;rw[h]
  ·rename_i h
   have h':¬(Lib.index l [47,47]= -1):=by simpa using h
   rw[decide_eq_decide]
   omega
theorem has2_high:∀(a t:List UInt8),(∀x∈a,128≤x.toNat)→has2 (a++t)=has2 t
 | [],_,_=>rfl
 | x::a,t,h=>by
  have hx:=h x (by simp)
  have:(x==47)=false:=by
   rw[beq_eq_false_iff_ne];rintro rfl;revert hx;decide
  rw[List.cons_append,has2_cons,this,has2_high a t (fun y hy=>h y (by simp[hy]))]
  simp
theorem head_encL (rs:List Nat) (ok:∀c∈rs,okR c) (k:Nat) (hk:k<128) (hk0:0<k):((encL rs).headD 0=UInt8.ofNat k)↔rs.headD 0=k:=by
 cases rs with
 | nil=>
  simp only[encL,List.flatMap_nil,List.headD_nil]
  constructor
  ·intro h;have:=congrArg UInt8.toNat h;rw[u8n k (by omega)] at this;simpa using this
  ·rintro rfl;omega
 | cons c t=>
  rw[encL_cons]
  simp only[List.headD_cons]
  by_cases hc:c<128
  ·rw[enc1_low c hc]
   simp only[List.cons_append,List.headD_cons]
   constructor
   ·intro h;have:=congrArg UInt8.toNat h;rw[u8n k (by omega),u8n c (by omega)] at this;exact this
   ·rintro rfl;rfl
  ·have hh:=enc1_high c (by omega) (ok c (by simp))
   have hne:=enc1_ne c
   cases he:enc1 c with
   | nil=>exact absurd he hne
   | cons x s=>
    have hx:=hh x (by rw[he];simp)
    simp only[List.cons_append,List.headD_cons]
    constructor
    ·intro h;rw[h,u8n k (by omega)] at hx;omega
    ·rintro rfl;omega
theorem getLastD_append {α:Type} (a b:List α) (d:α) (h:b≠[]):(a++b).getLastD d=b.getLastD d:=by
 cases b with
 | nil=>exact absurd rfl h
 | cons x t=>
  rw[List.getLastD_eq_getLast?,List.getLastD_eq_getLast?,List.getLast?_append,List.getLast?_eq_some_getLast (by simp:x::t≠[])]
  simp
theorem last_encL:∀(rs:List Nat),rs≠[]→(∀c∈rs,okR c)→∀k,k<128→0<k→(((encL rs).getLastD 0=UInt8.ofNat k)↔rs.getLastD 0=k)
 | [],h,_,_,_,_=>absurd rfl h
 | [c],_,ok,k,hk,hk0=>by
  have e:encL [c]=enc1 c:=by simp[encL]
  rw[e]
  simp only[List.getLastD_cons,List.getLastD_nil]
  by_cases hc:c<128
  ·rw[enc1_low c hc]
   simp only[List.getLastD_cons,List.getLastD_nil]
   constructor
   ·intro h;have:=congrArg UInt8.toNat h;rw[u8n k (by omega),u8n c (by omega)] at this;exact this
   ·rintro rfl;rfl
  ·have hh:=enc1_high c (by omega) (ok c (by simp))
   have hm:(enc1 c).getLastD 0∈enc1 c:=by
    rw[List.getLastD_eq_getLast?,List.getLast?_eq_some_getLast (enc1_ne c)]
    exact List.getLast_mem _
   have:=hh _ hm
   constructor
   ·intro h;rw[h,u8n k (by omega)] at this;omega
   ·rintro rfl;omega
 | c::d::t,_,ok,k,hk,hk0=>by
  have hne:encL (d::t)≠[]:=by rw[encL_cons];simp[enc1_ne]
  rw[encL_cons,getLastD_append _ _ _ hne,last_encL (d::t) (by simp) (fun x hx=>ok x (by simp at hx ⊢;right;exact hx)) k hk hk0]
  simp only[List.getLastD_cons]
theorem has2_encL:∀rs:List Nat,(∀c∈rs,okR c)→has2 (encL rs)=dbl rs
 | [],_=>rfl
 | [c],ok=>by
  have e:encL [c]=enc1 c:=by simp[encL]
  rw[e]
  by_cases hc:c<128
  ·rw[enc1_low c hc,has2_cons,has2_nil];simp[dbl]
  ·have:=has2_high (enc1 c) [] (enc1_high c (by omega) (ok c (by simp)))
   rw[List.append_nil] at this
   rw[this];rfl
 | c::d::t,ok=>by
  have ok':∀x∈d::t,okR x:=fun x hx=>ok x (by simp at hx ⊢;right;exact hx)
  have ih:=has2_encL (d::t) ok'
  rw[encL_cons,dbl]
  by_cases hc:c<128
  ·have hh:=head_encL (d::t) ok' 47 (by decide) (by decide)
   rw[enc1_low c hc,List.cons_append,List.nil_append,has2_cons,ih]
   congr 1
   have h1:(UInt8.ofNat c==47)=(c==47):=by
    rw[Bool.eq_iff_iff,beq_iff_eq,beq_iff_eq]
    constructor
    ·intro h;have:=congrArg UInt8.toNat h;rw[u8n c (by omega)] at this;exact this
    ·rintro rfl;rfl
   have h2:((encL (d::t)).headD 0==47)=(d==47):=by
    rw[Bool.eq_iff_iff,beq_iff_eq,beq_iff_eq]
    exact hh
   rw[h1,h2]
  ·rw[has2_high _ _ (enc1_high c (by omega) (ok c (by simp))),ih]
   have:(c==47)=false:=jB (by omega)
   rw[this];simp
theorem nameL_of {l:List UInt8} {rs:List Nat} (h:sigs l=some rs):nameL l=nameR rs:=by unfold nameL;rw[h]
theorem textL_of {l:List UInt8} {rs:List Nat} (h:sigs l=some rs):textL l=textR rs:=by unfold textL;rw[h]
theorem countL_of {l:List UInt8} {rs:List Nat} (h:sigs l=some rs):countL l=(rs.length,0):=by unfold countL;rw[h]
theorem ok1 (c:Nat) (h:c<55296):∀x∈[c],okR x:=by intro x hx;simp at hx;subst hx;exact .inl h
end Go.Aq.Wd
namespace Go.Proofs.YtlidiclfpklliaaGreatDoor
open Go.RowKit Go.Aq
theorem sl_u8:SliceTy Tryz.prog 36 5 (.int .u8 0) 1 1:=⟨Tryz.underlying36,by kernel_rfl,rfl,by decide⟩
end Go.Proofs.YtlidiclfpklliaaGreatDoor
namespace Go.Aq
open Go.RowKit
theorem str_extract (l:List UInt8) (i j:Nat):(str l).extract i j=str ((l.take j).drop i):=by
 unfold str
 apply ByteArray.ext
 rw[ByteArray.data_extract]
 simp[List.drop_take]
theorem str_from (l:List UInt8) (i:Nat):(str l).extract i l.length=str (l.drop i):=by rw[str_extract,List.take_length]
theorem Chg.iterAt {S:List Nat} {a w:World} (h:Chg S a w) {k:Nat} (hk:k∈S∨a.heap.size≤k) (s:ByteArray) (pos:Nat):Chg S a (w.iterAt k s pos):=
 h.trans (T:=[k]) ⟨rfl,rfl,rfl,by rw[Lib.iterAt_size];exact Nat.le_refl _,fun i hi hn=>Lib.iterAt_other w k i s pos (by simpa using hn)⟩ (by simpa using hk)
theorem Chg.range {S:List Nat} {a w:World} (h:Chg S a w) (s:ByteArray) (pos:Nat):Chg S a (w.iter s pos):=h.alloc _
namespace Wd
theorem rb {a b:Bool} (h:a=b):Ending.returned (.bool a)=.returned (.bool b):=by rw[h]
theorem ri {k:IntKind} {a b:Int} (h:a=b):Ending.returned (.int k a)=.returned (.int k b):=by rw[h]
theorem get_str (l:List UInt8) (i:Nat):(str l).get! i=l.getD i 0:=by
 unfold str ByteArray.get!
 simp[List.getD_eq_getElem?_getD]
 rfl
theorem decode_str (l:List UInt8) (p:Nat):Utf8.decode (str l) p=dec (l.drop p):=by
 rw[Lib.decode_at]
 unfold dec
 have e:∀k,(l.drop p).getD k 0=l.getD (p+k) 0:=fun k=>by simp[List.getD_eq_getElem?_getD]
 rw[get_str,get_str,get_str,get_str,e,e,e,e,str_size,List.length_drop]
 rfl
def decG (l:List UInt8):Nat×Nat:=if l=[] then (65533,0) else dec l
theorem decodeGo_str (l:List UInt8):Lib.decodeGo (str l)=decG l:=by
 unfold Lib.decodeGo decG
 rw[str_size,decode_str,List.drop_zero]
 by_cases h:l=[]
 ·simp[h]
 ·rw[if_neg h,if_neg (fun e=>h (List.eq_nil_of_length_eq_zero e))]
theorem dec_fst (l:List UInt8):(dec l).1≤2000000:=by
 by_cases h:l=[]
 ·subst h;decide
 ·cases hb:bad (dec l) with
  | true=>rw[bad_iff] at hb;rw[hb];decide
  | false=>
   have:=(dec_good l h hb).1
   unfold okR at this;omega
end Wd
end Go.Aq
namespace Go.Proofs.YtlidiclfpklliaaGreatDoor
open Go.RowKit Go.Aq Go.Aq.Wd
def Tabs (w:World):Prop:=Lib.Utf8Tabs 1 2 w∧(∃m,w.cell? ⟨0,0,none⟩=some (.int .i64 m))∧True
theorem Tabs.chg {w w':World} (h:Tabs w) (c:Chg [] w w'):Tabs w':=by
 obtain⟨⟨h1,h2⟩,⟨m,h3⟩,-⟩:=h
 exact⟨⟨fun i hi=>c.cell_some (h1 i hi) (by simp),fun i hi=>⟨c.cell_some (h2 i hi).1 (by simp),c.cell_some (h2 i hi).2 (by simp)⟩⟩,⟨m,c.cell_some h3 (by simp)⟩,trivial⟩
theorem dec_any (l:List UInt8) (w:World) (hT:Tabs w):
  Calls Tryz.prog 306 #[.string (str l)] w fun e w'=>e=.returned (.tuple #[.int .i32 (decG l).1,.int .i64 (decG l).2])∧Chg [] w w':=by
 have h:=Tryz.utf8_DecodeRuneInString (str l) w hT.1
 rw[decodeGo_str] at h
 exact h.mono fun e w' ⟨h1,h2⟩=>⟨h1,Chg.of_below h2⟩
theorem whole_any (l:List UInt8) (w:World) (hT:Tabs w):
  Calls Tryz.prog 278 #[.string (str l)] w fun e w'=>e=.returned (.bool (decide (1<(decG l).2)))∧Chg [] w w':=by
 have hd:=dec_any l w hT
 generalize (decG l).1=a at *
 generalize (decG l).2=b at *
 go_enter Tryz.func278,Tryz.ntmps278
 go_wp2_with fail
 refine hd.mono ?_
 rintro e w1 ⟨rfl,c1⟩
 go_wp2_with fail
 go_ret
 exact⟨rb (by simp;omega),c1⟩
theorem low_any (c:Nat) (hc:c≤2000000) (w:World):
  Calls Tryz.prog 279 #[.int .i32 c] w fun e w'=>e=.returned (.bool (low c))∧w'=w:=by
 go_enter Tryz.func279,Tryz.ntmps279
 go_wp2_with fail
 all_goals go_ret
 all_goals refine⟨rb ?_,rfl⟩
 all_goals (rw[Bool.eq_iff_iff];simp[low];omega)
theorem letter_any (c:Nat) (hc:c≤2000000) (w:World):
  Calls Tryz.prog 275 #[.int .i32 c] w fun e w'=>e=.returned (.bool (letter c))∧w'=w:=by
 go_enter Tryz.func275,Tryz.ntmps275
 go_wp2_with fail
 all_goals go_ret
 all_goals refine⟨rb ?_,rfl⟩
 all_goals (try simp only[beq_iff_eq,beq_eq_false_iff_ne,ne_eq] at *)
 all_goals (rw[Bool.eq_iff_iff];simp only[letter,Bool.or_eq_true,Bool.and_eq_true,decide_eq_true_eq,beq_iff_eq,bne_iff_ne,ne_eq,Bool.false_eq_true,true_iff,false_iff];omega)
theorem next_at (l:List UInt8) (w:World) (k pos:Nat) (hk:w.heap[k]?=some (.stringIter (str l) pos)) (h:pos<l.length) (ty:TypeId):
  (Instr.next (.pointer (some ⟨k,0,none⟩)) true ty).run Tryz.prog w=.ok (.tuple #[.bool true,.int .i64 pos,.int .i32 (dec (l.drop pos)).1]) (w.iterAt k (str l) (pos+(dec (l.drop pos)).2)):=by
 have:=Lib.run_next_any_at (P:=Tryz.prog) w k (str l) pos ty hk (by rw[str_size];exact h)
 rw[decode_str] at this
 exact this
theorem next_end (l:List UInt8) (w:World) (k pos:Nat) (hk:w.heap[k]?=some (.stringIter (str l) pos)) (h:¬pos<l.length) (ty:TypeId):
  (Instr.next (.pointer (some ⟨k,0,none⟩)) true ty).run Tryz.prog w=.ok (.tuple #[.bool false]) w:=
 Lib.run_next_end_at (P:=Tryz.prog) w k (str l) pos ty hk (by rw[str_size];exact h)
theorem drop_ne (l:List UInt8) (p:Nat) (h:p<l.length):l.drop p≠[]:=by
 intro e;have:=congrArg List.length e;simp at this;omega
theorem dec_fits (l:List UInt8) (p:Nat) (h:p<l.length):p+(dec (l.drop p)).2≤l.length:=by
 have:=dec_le _ (drop_ne l p h)
 rw[List.length_drop] at this;omega
def Pre (l:List UInt8) (pos:Nat) (pre:List Nat):Prop:=sigs l=(sigs (l.drop pos)).map (pre++·)
theorem Pre.zero (l:List UInt8):Pre l 0 []:=by unfold Pre;simp
theorem Pre.step {l:List UInt8} {pos:Nat} {pre:List Nat} (h:Pre l pos pre) (hp:pos<l.length) (hb:bad (dec (l.drop pos))=false):Pre l (pos+(dec (l.drop pos)).2) (pre++[(dec (l.drop pos)).1]):=by
 unfold Pre at *
 rw[h,sigs_step _ (drop_ne l pos hp),hb]
 simp only[Bool.false_eq_true,if_false,List.drop_drop,Option.map_map]
 congr 1
 funext x
 simp
theorem Pre.bad {l:List UInt8} {pos:Nat} {pre:List Nat} (h:Pre l pos pre) (hp:pos<l.length) (hb:Wd.bad (dec (l.drop pos))=true):sigs l=none:=by
 unfold Pre at h
 rw[h,sigs_step _ (drop_ne l pos hp),hb]
 rfl
theorem Pre.all {l:List UInt8} {pos:Nat} {pre:List Nat} (h:Pre l pos pre) (hp:¬pos<l.length):sigs l=some pre:=by
 unfold Pre at h
 rw[h,List.drop_eq_nil_of_le (by omega),sigs_nil]
 simp
theorem count_any (l:List UInt8) (w:World) (hT:Tabs w) (hl:l.length≤1000000000):
  Calls Tryz.prog 217 #[.string (str l)] w fun e w'=>e=.returned (.tuple #[.int .i64 (countL l).1,.int .i64 (countL l).2])∧Chg [] w w':=by
 have hsz:=str_size l
 obtain⟨K,hK⟩:∃K,w.heap.size=K:=⟨_,rfl⟩
 go_enter Tryz.func217,Tryz.ntmps217
 go_wp2_with fail
 go_loopg [4] l.length (fun k vn wr=>∃(pos:Nat) (pre:List Nat),vn=.int .i64 pre.length∧pos+k=l.length∧pre.length≤pos∧wr.heap[K]?=some (.stringIter (str l) pos)∧Chg [] w wr∧Pre l pos pre)
 case atStart=>
  refine⟨0,[],rfl,by omega,by simp,?_,(Chg.refl _ _).range _ _,Pre.zero l⟩
  rw[←hK];exact World.iter_heap w (str l) 0
 case round=>
  obtain⟨pos,pre,rfl,hpk,hpl,hit,hc,hpre⟩:=hrel
  by_cases hp:pos<l.length
  ·have hnx:=fun ty=>next_at l wr K pos hit hp ty
   have hfit:=dec_fits l pos hp
   have hdp:=dec_pos (l.drop pos)
   have hd1:=dec_fst (l.drop pos)
   have hcn:=hc.iterAt (k:=K) (.inr (by omega)) (str l) (pos+(dec (l.drop pos)).2)
   have hitn:=Lib.iterAt_heap wr K (str l) pos (pos+(dec (l.drop pos)).2) hit
   have hst:=hpre.step hp
   have hbd:=hpre.bad hp
   have hG:decG (l.drop pos)=dec (l.drop pos):=by unfold decG;rw[if_neg (drop_ne l pos hp)]
   have he:=str_from l pos
   have hwh:=whole_any (l.drop pos) (wr.iterAt K (str l) (pos+(dec (l.drop pos)).2)) (hT.chg hcn)
   rw[hG] at hwh
   clear hG
   generalize dec (l.drop pos)=d at *
   obtain⟨c,n⟩:=d
   simp only at *
   generalize wr.iterAt K (str l) (pos+n)=w1 at *
   have HST:=zH hst
   have HBD:=zH hbd
   have HP:=zA hpk hpl
   have hpb:pre.length≤1000000000:=by omega
   have hpb':(pre.length:Int)≤1000000000:=by omega
   clear hst hbd hpre hit hc hpk hpl
   by_cases h3:c=65533
   ·subst h3
    by_cases h1:1<n
    ·have hg:=HST.out (not_bad _ n (by omega))
     have td:decide (1<n)=true:=by simpa using h1
     rw[td] at hwh
     go_wp2_with fail
     refine hwh.mono ?_
     rintro e w2 ⟨rfl,c2⟩
     have hit2:=(c2.block K (Array.getElem?_eq_some_iff.1 hitn).1 (by simp)).trans hitn
     have hc2:=hcn.nil c2
     go_wp2_with fail
     go_roundg (gk - n)
     case measure=>have:=HP.out;omega
     case rel=>exact⟨pos+n,pre++[65533],by simp,by have:=HP.out;omega,by have:=HP.out;simp;omega,hit2,hc2,hg⟩
    ·have hn1:n=1:=by omega
     subst hn1
     have hs:=HBD.out rfl
     have hcl:countL l=(0,4):=by unfold countL;rw[hs]
     have HCL:=zH hcl
     have td:decide (1<1)=false:=rfl
     rw[td] at hwh
     clear hcl hs
     go_wp2_with fail
     refine hwh.mono ?_
     rintro e w2 ⟨rfl,c2⟩
     go_wp2_with fail
     go_ret2
     exact⟨by rw[HCL.out];rfl,hcn.nil c2⟩
   ·have t1:((c:Int)==65533)=false:=by simp;omega
    have hg:=HST.out (not_bad c n (by omega))
    go_wp2_with fail
    go_roundg (gk - n)
    case measure=>have:=HP.out;omega
    case rel=>exact⟨pos+n,pre++[c],by simp,by have:=HP.out;omega,by have:=HP.out;simp;omega,hitn,hcn,hg⟩
  ·have hnx:=fun ty=>next_end l wr K pos hit hp ty
   have hs:=hpre.all hp
   have hcl:=countL_of hs
   go_wp2_with fail
   go_ret2
   exact⟨by rw[hcl];rfl,hc⟩
end Go.Proofs.YtlidiclfpklliaaGreatDoor
