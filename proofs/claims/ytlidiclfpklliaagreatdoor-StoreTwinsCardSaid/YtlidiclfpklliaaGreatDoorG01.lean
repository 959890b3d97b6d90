/- Num Str FyK -/
import Derived.Test.YtlidiclfpklliaaGreatDoorG00
import Derived.Laws.BitsLemmas
import Derived.Test.YtlidiclfpklliaaGreatDoorChecked
import Derived.Outline
import Derived.WalkSpells
import Derived.Laws.BytesArg
import Derived.Maps.Ext
import Derived.Maps.OwnSet
import Derived.Maps.RangeWalk
import Derived.Sort.KeysCollected
set_option linter.unusedSimpArgs false
set_option linter.unusedVariables false
namespace Go.Aq
open Go.RowKit
def Bc (c:UInt8):Value:=.int .u8 c.toNat
def Bs (l:List UInt8):List Value:=l.map Bc
theorem Bs_length (l:List UInt8):(Bs l).length=l.length:=by simp[Bs]
theorem Bs_append (l m:List UInt8):Bs (l++m)=Bs l++Bs m:=by simp[Bs]
theorem Bs_get (l:List UInt8) (j:Nat) (h:j<l.length):(Bs l)[j]?=some (.int .u8 ((l[j]'h).toNat:Int)):=by simp[Bs,Bc,h]
theorem Bs_set (l:List UInt8) (j:Nat) (c:UInt8):(Bs l).set j (.int .u8 (c.toNat:Int))=Bs (l.set j c):=by simp[Bs,Bc,List.map_set]
theorem Bs_one (l:List UInt8):∀u∈Bs l,u.oneCell'=true:=by
 intro u hu;obtain⟨_,_,rfl⟩:=List.mem_map.1 hu;rfl
theorem bits_nat_full (k:IntKind) (hk:∀n:Nat,n<2^k.bits→k.wrap n=n) (a b:Nat) (ha:a<2^k.bits) (hb:b<2^k.bits):
  bits .and k a b=((a &&& b:Nat):Int)∧bits .or k a b=((a ||| b:Nat):Int)∧bits .xor k a b=((a ^^^ b:Nat):Int):=by
 have ha':a % 2^k.bits=a:=Nat.mod_eq_of_lt ha
 have hb':b % 2^k.bits=b:=Nat.mod_eq_of_lt hb
 refine⟨?_,?_,?_⟩
 ·simp only[bits,BitVec.ofInt_natCast,BitVec.toNat_and,BitVec.toNat_ofNat,ha',hb']
  exact hk _ (Nat.and_lt_two_pow _ hb)
 ·simp only[bits,BitVec.ofInt_natCast,BitVec.toNat_or,BitVec.toNat_ofNat,ha',hb']
  exact hk _ (Nat.or_lt_two_pow ha hb)
 ·simp only[bits,BitVec.ofInt_natCast,BitVec.toNat_xor,BitVec.toNat_ofNat,ha',hb']
  exact hk _ (Nat.xor_lt_two_pow ha hb)
theorem bits_u8 (a b:Nat) (ha:a<256) (hb:b<256):bits .and .u8 a b=((a &&& b:Nat):Int)∧bits .or .u8 a b=((a ||| b:Nat):Int)∧bits .xor .u8 a b=((a ^^^ b:Nat):Int):=
 bits_nat_full .u8 (fun n h=>by rw[IntKind.wrap_u8];simp only[IntKind.bits] at h;omega) a b ha hb
theorem bits_u32 (a b:Nat) (ha:a<4294967296) (hb:b<4294967296):bits .and .u32 a b=((a &&& b:Nat):Int)∧bits .or .u32 a b=((a ||| b:Nat):Int)∧bits .xor .u32 a b=((a ^^^ b:Nat):Int):=
 bits_nat_full .u32 (fun n h=>by rw[IntKind.wrap_u32];simp only[IntKind.bits] at h;omega) a b ha hb
theorem u8and1N (a:Nat) (ha:a<256):bits .and .u8 a 1=((a % 2:Nat):Int):=by
 have:=(bits_u8 a 1 ha (by decide)).1
 rw[Nat.and_one_is_mod] at this;exact this
theorem or_shift (a b k:Nat) (ha:a<2^k):a ||| b * 2^k=a+2^k * b:=by
 rw[Nat.or_comm,Nat.mul_comm,Nat.add_comm]
 exact (Nat.two_pow_add_eq_or_of_lt ha b).symm
def str (l:List UInt8):ByteArray:=⟨l.toArray⟩
theorem str_inj {l m:List UInt8} (h:str l=str m):l=m:=by
 have:=congrArg (fun b:ByteArray=>b.data.toList) h
 simpa[str] using this
theorem str_toList (l:List UInt8):(str l).toList=l:=ByteArray.toList_mk l
theorem str_size (l:List UInt8):(str l).size=l.length:=by simp[str,ByteArray.size]
theorem str_eq (a b:List UInt8):((str a).toList==(str b).toList)=decide (a=b):=by rw[str_toList,str_toList];exact (Bool.eq_iff_iff.2 (by simp))
theorem run_str {P:Program} {w:World} {v:Value} {n:Nat} {bs:List UInt8} (h:Sees w 1 v n (Bs bs)) (src dst e:TypeId) (hs:P.underlying src=some (.slice e)) (he:P.underlying e=some (.int .u8)) (hd:P.underlying dst=some .string):
  (convert src dst v).run P w=.ok (.string (str bs)) w:=by
 obtain⟨hl,ao,cap,rfl,hc,hno,hcells⟩:=h
 rw[run_convert_bytes_string w src dst e ao n cap hs he hd]
 cases ao with
 | none=>
  obtain⟨rfl,rfl⟩:=hno rfl
  have:bs=[]:=List.eq_nil_of_length_eq_zero (by simpa[Bs] using hl)
  subst this
  rfl
 | some ad=>
  have h1:=run_loadCells_list (P:=P) (w:=w) ad (Bs bs) (hcells ad rfl)
  have h2:(Bs bs)=(bs.map fun c=>(c.toNat:Int)).map (Value.int .u8):=by simp[Bs,Bc]
  rw[hl,Nat.mul_one,h2] at h1
  rw[run_bytesToString w ad n cap _ h1,foldl_push_bytes]
  simp[str,Function.comp_def]
end Go.Aq
namespace Go.Proofs.YtlidiclfpklliaaGreatDoor
open Go.RowKit Go.Aq
theorem run_str8 {w:World} {v:Value} {n:Nat} {bs:List UInt8} (h:Sees w 1 v n (Bs bs)):(convert 36 9 v).run Tryz.prog w=.ok (.string (str bs)) w:=
 run_str h _ _ _ Tryz.underlying36 Tryz.underlying5 Tryz.underlying9
end Go.Proofs.YtlidiclfpklliaaGreatDoor
namespace Go.Aq.Fy
open Go.Aq Go.RowKit
abbrev Nm:=List UInt8
section
variable {α β:Type}
def lookK (s:Nm):List (Nm×α)→Option α
 | []=>none
 | (k,v)::l=>if k=s then some v else lookK s l
def insK (s:Nm) (v:α):List (Nm×α)→List (Nm×α)
 | []=>[(s,v)]
 | (k,x)::l=>if k=s then (s,v)::l else if s<k then (s,v)::(k,x)::l else (k,x)::insK s v l
def delK (s:Nm) (l:List (Nm×α)):List (Nm×α):=l.filter fun p=>!decide (p.1=s)
def Asc (l:List (Nm×α)):Prop:=l.Pairwise fun p q=>p.1<q.1
theorem nlt_of {a b:Nm} (h1:a≠b) (h2:¬b<a):a<b:=by
 rcases List.le_iff_lt_or_eq.1 (List.not_lt.1 h2) with h | h
 ·exact h
 ·exact absurd h h1
theorem asc_nil:Asc ([]:List (Nm×α)):=List.Pairwise.nil
theorem mem_ins {s:Nm} {v:α}:∀{l:List (Nm×α)} {p:Nm×α},p∈insK s v l→p=(s,v)∨p∈l
 | [],p,h=>by simp only[insK,List.mem_singleton] at h;exact .inl h
 | (k,x)::l,p,h=>by
  unfold insK at h
  split at h
  ·rcases List.mem_cons.1 h with h | h
   ·exact .inl h
   ·exact .inr (.tail _ h)
  ·split at h
   ·rcases List.mem_cons.1 h with h | h
    ·exact .inl h
    ·exact .inr h
   ·rcases List.mem_cons.1 h with h | h
    ·exact .inr (by rw[h];exact .head _)
    ·rcases mem_ins h with h | h
     ·exact .inl h
     ·exact .inr (.tail _ h)
theorem asc_ins (s:Nm) (v:α):∀{l:List (Nm×α)},Asc l→Asc (insK s v l)
 | [],_=>List.pairwise_singleton _ _
 | (k,x)::l,h=>by
  obtain⟨h1,h2⟩:=List.pairwise_cons.1 h
  unfold insK
  split
  ·rename_i e;subst e;exact List.pairwise_cons.2 ⟨h1,h2⟩
  ·split
   ·rename_i hlt
    refine List.pairwise_cons.2 ⟨fun p hp=>?_,h⟩
    rcases List.mem_cons.1 hp with rfl | hp
    ·exact hlt
    ·exact List.lt_trans hlt (h1 p hp)
   ·rename_i hne hlt
    refine List.pairwise_cons.2 ⟨fun p hp=>?_,asc_ins s v h2⟩
    rcases mem_ins hp with rfl | hp
    ·exact nlt_of hne hlt
    ·exact h1 p hp
theorem asc_del (s:Nm) {l:List (Nm×α)} (h:Asc l):Asc (delK s l):=h.filter _
theorem look_mem {s:Nm} {v:α}:∀{l:List (Nm×α)},lookK s l=some v→(s,v)∈l
 | [],h=>by cases h
 | (k,x)::l,h=>by
  unfold lookK at h
  split at h
  ·rename_i e;subst e;cases h;exact .head _
  ·exact .tail _ (look_mem h)
theorem look_of_mem {s:Nm} {v:α}:∀{l:List (Nm×α)},Asc l→(s,v)∈l→lookK s l=some v
 | [],_,h=>by cases h
 | (k,x)::l,ha,h=>by
  obtain⟨h1,h2⟩:=List.pairwise_cons.1 ha
  unfold lookK
  rcases List.mem_cons.1 h with e | h
  ·cases e;rw[if_pos rfl]
  ·rw[if_neg (fun e=>?_),look_of_mem h2 h]
   have:=h1 _ h
   simp only[e] at this
   exact List.lt_irrefl _ this
theorem look_none {s:Nm}:∀{l:List (Nm×α)},lookK s l=none↔∀p∈l,p.1≠s
 | []=>by simp[lookK]
 | (k,x)::l=>by
  unfold lookK
  split
  ·rename_i e;simp[e]
  ·rename_i e;rw[look_none];simp[e]
theorem look_ins_same (s:Nm) (v:α):∀l:List (Nm×α),lookK s (insK s v l)=some v
 | []=>by simp[insK,lookK]
 | (k,x)::l=>by
  unfold insK
  split
  ·simp[lookK]
  ·split
   ·simp[lookK]
   ·rename_i h1 _;simp[lookK,h1,look_ins_same s v l]
theorem look_ins_ne {s s':Nm} (h:s'≠s) (v:α):∀l:List (Nm×α),lookK s' (insK s v l)=lookK s' l
 | []=>by simp[insK,lookK,Ne.symm h]
 | (k,x)::l=>by
  unfold insK
  split
  ·rename_i e;subst e;simp[lookK,Ne.symm h]
  ·split
   ·simp[lookK,Ne.symm h]
   ·simp[lookK,look_ins_ne h v l]
theorem look_del_same (s:Nm) (l:List (Nm×α)):lookK s (delK s l)=none:=by
 rw[look_none]
 intro p hp
 simpa[delK] using (List.mem_filter.1 hp).2
theorem look_del_ne {s s':Nm} (h:s'≠s):∀l:List (Nm×α),lookK s' (delK s l)=lookK s' l
 | []=>rfl
 | (k,x)::l=>by
  have ih:=look_del_ne h l
  unfold delK at *
  by_cases hk:k=s
  ·subst hk
   rw[List.filter_cons_of_neg (by simp)]
   simp[lookK,Ne.symm h,ih]
  ·rw[List.filter_cons_of_pos (by simp[hk])]
   simp[lookK,ih]
theorem asc_ext:∀{l m:List (Nm×α)},Asc l→Asc m→(∀s,lookK s l=lookK s m)→l=m:=by
 intro l m hl hm h
 refine List.Perm.eq_of_pairwise (le:=fun p q:Nm×α=>p.1<q.1) (fun a b _ _ h1 h2=>absurd (List.lt_trans h1 h2) (List.lt_irrefl _)) hl hm ?_
 refine (List.perm_ext_iff_of_nodup (hl.imp fun {a b} hab e=>by rw[e] at hab;exact List.lt_irrefl _ hab) (hm.imp fun {a b} hab e=>by rw[e] at hab;exact List.lt_irrefl _ hab)).2 fun p=>?_
 obtain⟨s,v⟩:=p
 exact⟨fun hp=>look_mem (by rw[←h];exact look_of_mem hl hp),fun hp=>look_mem (by rw[h];exact look_of_mem hm hp)⟩
theorem ins_length_new (s:Nm) (v:α):∀{l:List (Nm×α)},lookK s l=none→(insK s v l).length=l.length+1
 | [],_=>rfl
 | (k,x)::l,h=>by
  unfold lookK at h
  split at h
  ·cases h
  ·rename_i hk
   unfold insK
   rw[if_neg hk]
   split
   ·rfl
   ·simp[ins_length_new s v h]
theorem ins_length_old (s:Nm) (v:α):∀{l:List (Nm×α)},Asc l→lookK s l≠none→(insK s v l).length=l.length
 | [],_,h=>absurd rfl h
 | (k,x)::l,ha,h=>by
  obtain⟨h1,h2⟩:=List.pairwise_cons.1 ha
  unfold lookK at h
  unfold insK
  split
  ·rfl
  ·rename_i hk
   rw[if_neg hk] at h
   split
   ·rename_i hlt
    exfalso
    cases hv:lookK s l with
    | none=>exact h hv
    | some v'=>exact List.lt_irrefl _ (List.lt_trans hlt (h1 _ (look_mem hv)))
   ·simp[ins_length_old s v h2 h]
theorem ins_length_le (s:Nm) (v:α) (l:List (Nm×α)):(insK s v l).length≤l.length+1:=by
 induction l with
 | nil=>simp[insK]
 | cons p l ih=>
  obtain⟨k,x⟩:=p
  unfold insK
  split
  ·simp
  ·split
   ·simp
   ·simp;omega
theorem del_length_le (s:Nm) (l:List (Nm×α)):(delK s l).length≤l.length:=List.length_filter_le _ _
theorem mem_del {s:Nm} {l:List (Nm×α)} {p:Nm×α} (h:p∈delK s l):p∈l∧p.1≠s:=by
 obtain⟨h1,h2⟩:=List.mem_filter.1 h
 exact⟨h1,by simpa using h2⟩
def Two (R:Nm→α→β→Prop):List (Nm×α)→List (Nm×β)→Prop
 | [],[]=>True
 | (k,x)::l,(k',y)::m=>k=k'∧R k x y∧Two R l m
 | _,_=>False
theorem Two.nil {R:Nm→α→β→Prop}:Two R [] []:=trivial
theorem Two.keys {R:Nm→α→β→Prop}:∀{l:List (Nm×α)} {m:List (Nm×β)},Two R l m→l.map (·.1)=m.map (·.1)
 | [],[],_=>rfl
 | [],_::_,h=>h.elim
 | _::_,[],h=>h.elim
 | (k,x)::l,(k',y)::m,h=>by
  obtain⟨rfl,_,h⟩:=h
  simp[h.keys]
theorem Two.len {R:Nm→α→β→Prop} {l:List (Nm×α)} {m:List (Nm×β)} (h:Two R l m):l.length=m.length:=by
 have:=congrArg List.length h.keys
 simpa using this
theorem Two.imp {R R':Nm→α→β→Prop} (hR:∀k x y,R k x y→R' k x y):∀{l:List (Nm×α)} {m:List (Nm×β)},Two R l m→Two R' l m
 | [],[],_=>trivial
 | [],_::_,h=>h.elim
 | _::_,[],h=>h.elim
 | (k,x)::l,(k',y)::m,h=>⟨h.1,hR _ _ _ h.2.1,h.2.2.imp hR⟩
theorem Two.ins {R:Nm→α→β→Prop} {s:Nm} {v:α} {v':β} (hv:R s v v'):∀{l:List (Nm×α)} {m:List (Nm×β)},Two R l m→Two R (insK s v l) (insK s v' m)
 | [],[],_=>⟨rfl,hv,trivial⟩
 | [],_::_,h=>h.elim
 | _::_,[],h=>h.elim
 | (k,x)::l,(k',y)::m,h=>by
  obtain⟨rfl,h1,h2⟩:=h
  unfold insK
  by_cases e1:k=s
  ·simp only[e1,if_true];exact⟨rfl,hv,h2⟩
  ·simp only[e1,if_false]
   by_cases e2:s<k
   ·simp only[e2,if_true];exact⟨rfl,hv,rfl,h1,h2⟩
   ·simp only[e2,if_false];exact⟨rfl,h1,h2.ins hv⟩
theorem Two.del {R:Nm→α→β→Prop} (s:Nm):∀{l:List (Nm×α)} {m:List (Nm×β)},Two R l m→Two R (delK s l) (delK s m)
 | [],[],_=>trivial
 | [],_::_,h=>h.elim
 | _::_,[],h=>h.elim
 | (k,x)::l,(k',y)::m,h=>by
  obtain⟨rfl,h1,h2⟩:=h
  have ih:=h2.del s
  unfold delK at *
  by_cases e:k=s
  ·rw[List.filter_cons_of_neg (by simp[e]),List.filter_cons_of_neg (by simp[e])];exact ih
  ·rw[List.filter_cons_of_pos (by simp[e]),List.filter_cons_of_pos (by simp[e])];exact⟨rfl,h1,ih⟩
theorem Two.look {R:Nm→α→β→Prop} (s:Nm):∀{l:List (Nm×α)} {m:List (Nm×β)},Two R l m→(lookK s l=none∧lookK s m=none)∨∃x y,lookK s l=some x∧lookK s m=some y∧R s x y
 | [],[],_=>.inl ⟨rfl,rfl⟩
 | [],_::_,h=>h.elim
 | _::_,[],h=>h.elim
 | (k,x)::l,(k',y)::m,h=>by
  obtain⟨rfl,h1,h2⟩:=h
  unfold lookK
  by_cases e:k=s
  ·subst e;simp only[if_true];exact .inr ⟨x,y,rfl,rfl,h1⟩
  ·simp only[e,if_false];exact h2.look s
theorem Two.asc {R:Nm→α→β→Prop} {l:List (Nm×α)} {m:List (Nm×β)} (h:Two R l m) (ha:Asc l):Asc m:=by
 have h1:(l.map (·.1)).Pairwise (·<·):=List.pairwise_map.2 ha
 rw[h.keys] at h1
 exact List.pairwise_map.1 h1
theorem Two.mem {R:Nm→α→β→Prop}:∀{l:List (Nm×α)} {m:List (Nm×β)},Two R l m→∀{s:Nm} {y:β},(s,y)∈m→∃x,(s,x)∈l∧R s x y
 | [],[],_,_,_,h=>by cases h
 | [],_::_,h,_,_,_=>h.elim
 | _::_,[],h,_,_,_=>h.elim
 | (k,x)::l,(k',y)::m,h,s,z,hm=>by
  obtain⟨rfl,h1,h2⟩:=h
  rcases List.mem_cons.1 hm with e | hm
  ·cases e;exact⟨x,.head _,h1⟩
  ·obtain⟨x',h3,h4⟩:=h2.mem hm;exact⟨x',.tail _ h3,h4⟩
end
def heldR (v:Value):Option (DataW Value×List MemPlace):=some (.held v,[])
def datS (l:List (Nm×Value)):DataW Value:=.map (l.map fun p=>(Lit.string p.1,.held p.2))
theorem before_iff:∀a b:Nm,bytesBefore a b=true↔a<b
 | [],[]=>by simp[bytesBefore]
 | [],_::_=>by simp[bytesBefore]
 | _::_,[]=>by simp[bytesBefore]
 | a::r,b::s=>by
  unfold bytesBefore
  rw[List.cons_lt_cons_iff]
  simp[before_iff r s]
theorem str_key (s:Nm):WideAt.IsKeyLit (.string s):=by simp[WideAt.IsKeyLit]
theorem canonS {l:List (Nm×Value)} (h:Asc l):Maps.Canon (datS l):=
 ⟨_,rfl,List.pairwise_map.2 (h.imp fun {p q} hpq=>(before_iff _ _).2 hpq),fun p hp=>by obtain⟨q,_,rfl⟩:=List.mem_map.1 hp;exact str_key _⟩
theorem sameKey_s (a b:Nm):(Lit.string a).sameKey (.string b)=decide (a=b):=Bool.eq_iff_iff.2 (by simp[Lit.sameKey])
theorem datS_look (l:List (Nm×Value)) (s:Nm) (z:DataW Value):(datS l).atKey (.string s) z=(match lookK s l with | some v=>.held v | none=>z)∧Maps.has (datS l) (.string s)=(lookK s l).isSome:=by
 induction l with
 | nil=>exact⟨rfl,rfl⟩
 | cons p l ih=>
  obtain⟨k,v⟩:=p
  obtain⟨h1,h2⟩:=ih
  unfold datS DataW.atKey at h1 ⊢
  rw[Maps.has_eq]
  unfold datS at h2
  rw[Maps.has_eq] at h2
  simp only[List.map_cons,List.find?_cons,List.any_cons,sameKey_s,lookK]
  by_cases e:k=s
  ·simp[e]
  ·simp only[e,decide_false,Bool.false_or,if_false]
   exact⟨h1,h2⟩
theorem datS_other (l:List (Nm×Value)) (k:Lit) (hk:∀s,k≠.string s):Maps.has (datS l) k=false:=by
 unfold datS
 rw[Maps.has_eq,List.any_eq_false]
 intro p hp
 obtain⟨q,_,rfl⟩:=List.mem_map.1 hp
 cases k <;> simp[Lit.sameKey]
 rename_i s
 exact absurd rfl (hk s)
theorem datS_put {l:List (Nm×Value)} (h:Asc l) (s:Nm) (v:Value) (hc:Maps.Canon ((datS l).put (.string s) (.held v))):(datS l).put (.string s) (.held v)=datS (insK s v l):=by
 have hm:Maps.IsMap (datS l):=⟨_,rfl⟩
 refine Maps.ext hc (canonS (asc_ins s v h)) (fun k=>?_) (fun k z hk=>?_)
 ·by_cases e:k=.string s
  ·subst e;rw[Maps.has_put_same hm (str_key s),(datS_look _ s .nil).2,look_ins_same];rfl
  ·rw[Maps.has_put_other e]
   by_cases e':∃t,k=.string t
   ·obtain⟨t,rfl⟩:=e'
    rw[(datS_look _ t .nil).2,(datS_look _ t .nil).2,look_ins_ne (fun e2=>e (by rw[e2]))]
   ·rw[datS_other _ _ (fun t e2=>e' ⟨t,e2⟩),datS_other _ _ (fun t e2=>e' ⟨t,e2⟩)]
 ·by_cases e:k=.string s
  ·subst e;rw[Maps.atKey_put_same hm (str_key s),(datS_look _ s z).1,look_ins_same]
  ·rw[Maps.atKey_put_other e]
   by_cases e':∃t,k=.string t
   ·obtain⟨t,rfl⟩:=e'
    rw[(datS_look _ t z).1,(datS_look _ t z).1,look_ins_ne (fun e2=>e (by rw[e2]))]
   ·rw[Maps.has_put_other e,datS_other _ _ (fun t e2=>e' ⟨t,e2⟩)] at hk;cases hk
theorem datS_del {l:List (Nm×Value)} (h:Asc l) (s:Nm) (hc:Maps.Canon ((datS l).del (.string s))):(datS l).del (.string s)=datS (delK s l):=by
 refine Maps.ext hc (canonS (asc_del s h)) (fun k=>?_) (fun k z hk=>?_)
 ·by_cases e:k=.string s
  ·subst e;rw[Maps.has_del_same,(datS_look _ s .nil).2,look_del_same];rfl
  ·rw[Maps.has_del_other e]
   by_cases e':∃t,k=.string t
   ·obtain⟨t,rfl⟩:=e'
    rw[(datS_look _ t .nil).2,(datS_look _ t .nil).2,look_del_ne (fun e2=>e (by rw[e2]))]
   ·rw[datS_other _ _ (fun t e2=>e' ⟨t,e2⟩),datS_other _ _ (fun t e2=>e' ⟨t,e2⟩)]
 ·by_cases e:k=.string s
  ·subst e;rw[Maps.has_del_same] at hk;cases hk
  ·rw[Maps.atKey_del_other e]
   by_cases e':∃t,k=.string t
   ·obtain⟨t,rfl⟩:=e'
    rw[(datS_look _ t z).1,(datS_look _ t z).1,look_del_ne (fun e2=>e (by rw[e2]))]
   ·rw[Maps.has_del_other e,datS_other _ _ (fun t e2=>e' ⟨t,e2⟩)] at hk;cases hk
theorem datS_size (l:List (Nm×Value)):Maps.size (datS l)=l.length:=by simp[datS,Maps.size_eq]
theorem datS_keys (l:List (Nm×Value)):strKeys (datS l)=l.map (·.1):=by simp[datS,strKeys,strOf]
theorem sorted_asc {α:Type} {l:List (Nm×α)} (h:Asc l) {ss:List Nm} (hp:ss.Perm (l.map (·.1))):ss.mergeSort (fun x y=>decide (x≤y))=l.map (·.1):=by
 have tr:∀a b c:Nm,decide (a≤b)=true→decide (b≤c)=true→decide (a≤c)=true:=fun a b c h1 h2=>by simp only[decide_eq_true_eq] at *;exact List.le_trans h1 h2
 have tot:∀a b:Nm,(decide (a≤b) || decide (b≤a))=true:=fun a b=>by simp only[Bool.or_eq_true,decide_eq_true_eq];exact List.le_total a b
 refine List.Perm.eq_of_pairwise (le:=fun a b=>decide (a≤b)=true) (fun a b _ _ h1 h2=>?_) (List.pairwise_mergeSort tr tot ss) ?_ ((List.mergeSort_perm ss _).trans hp)
 ·simp only[decide_eq_true_eq] at h1 h2;exact List.le_antisymm h1 h2
 ·refine List.pairwise_map.2 (h.imp fun {p q} hpq=>?_)
  rw[decide_eq_true_eq]
  exact List.le_of_lt hpq
structure MapS (P:Program) (k:TypeId) (w:World) (b:Nat) (l:List (Nm×Value)):Prop where
 asc:Asc l
 short:∀p∈l,p.1.length≤1048576
 owns:w.ownsMap P k heldR b l.length (datS l)
section
variable {P:Program} {k:TypeId} {w w':World} {b:Nat} {l:List (Nm×Value)}
theorem own_chg {w w':World} {b n:Nat} {D:DataW Value} {S:List Nat} (h:w.ownsMap P k heldR b n D) (c:Chg S w w') (hb:b∉S):w'.ownsMap P k heldR b n D:=by
 have hlt:=h.lt
 obtain⟨es,clock,h1,F,hs,hD⟩:=h
 exact⟨es,clock,by rw[c.block b hlt hb];exact h1,F,hs,hD⟩
theorem own_size {n:Nat} {D:DataW Value} (h:w.ownsMap P k heldR b n D):w.ownsMap P k heldR b (Maps.size D) D:=by
 obtain⟨es,clock,h1,F,hs,rfl⟩:=h
 exact⟨es,clock,h1,F,by rw[Maps.size_eq,length_read];exact Nat.le_refl _,rfl⟩
theorem MapS.lt (h:MapS P k w b l):b<w.heap.size:=h.owns.lt
theorem MapS.chg {S:List Nat} (h:MapS P k w b l) (c:Chg S w w') (hb:b∉S):MapS P k w' b l:=⟨h.asc,h.short,own_chg h.owns c hb⟩
theorem MapS.chg0 (h:MapS P k w b l) (c:Chg [] w w'):MapS P k w' b l:=h.chg c (by simp)
theorem MapS.made (P:Program) (k:TypeId) (w:World):MapS P k (w.alloc (.map #[] 0)) w.heap.size []:=⟨asc_nil,by simp,World.ownsMap_made _ _ _ _⟩
theorem chg_grown {w w':World} {b:Nat} (h:w.grownBy w' (some b)):Chg [b] w w':=Chg.of_grown h
variable (hk:P.underlying k=some .string)
include hk
theorem key_s (s:Nm) (hs:s.length≤1048576):keyOf P k (.string (str s))=some (.string s):=by
 have:=Go.WideMaps.keyOf_string_mk (P:=P) (s:=str s) hk (by rw[str_size];simp only[maxLen];omega)
 simpa[str] using this
theorem MapS.look (h:MapS P k w b l) {t e:TypeId} (ht:P.underlying t=some (.map k e)) {z:Value} (hz:(zeroValue e).run P w=.ok z w) (s:Nm) (hs:s.length≤1048576):
  (Instr.lookup t (.map (some b)) (.string (str s)) false).run P w=.ok ((lookK s l).getD z) w∧
  (Instr.lookup t (.map (some b)) (.string (str s)) true).run P w=.ok (.tuple #[(lookK s l).getD z,.bool (lookK s l).isSome]) w:=by
 have K:=Maps.string_keyed hk
 have hl:=datS_look l s (.held z)
 have get:∀{v:Value},(match lookK s l with | some v=>DataW.held v | none=>.held z)=.held v→v=(lookK s l).getD z:=fun {v} hv=>by
  cases h2:lookK s l <;> rw[h2] at hv <;> (simp only[DataW.held.injEq] at hv;simp[hv])
 constructor
 ·obtain⟨v,ps,hr,hv⟩:=h.owns.lookup K ht hz (zd:=.held z) (zp:=[]) rfl (key_s hk s hs)
  rw[hl.1] at hv
  simp only[heldR,Option.some.injEq,Prod.mk.injEq] at hv
  rw[hr,←get hv.1.symm]
 ·obtain⟨v,ps,hr,hv⟩:=h.owns.look_ok K ht hz (zd:=.held z) (zp:=[]) rfl (key_s hk s hs)
  rw[hl.1] at hv
  simp only[heldR,Option.some.injEq,Prod.mk.injEq] at hv
  rw[hr,←get hv.1.symm,hl.2]
theorem MapS.put (h:MapS P k w b l) {t e:TypeId} (ht:P.underlying t=some (.map k e)) (hn:l.length≤1000000) (s:Nm) (hs:s.length≤1048576) (v:Value):
  ∃w',(Instr.mapUpdate t (.map (some b)) (.string (str s)) v).run P w=.ok () w'∧MapS P k w' b (insK s v l)∧Chg [b] w w':=by
 obtain⟨w',hr,ho,hg⟩:=h.owns.update (Maps.string_keyed hk) ht (by simp only[maxLen];omega) (key_s hk s hs) (show heldR v=some (.held v,[]) from rfl)
 have e:=datS_put h.asc s v (ho.canon (Maps.string_keyed hk))
 rw[e] at ho
 have ho':=own_size ho
 rw[datS_size] at ho'
 refine⟨w',hr,⟨asc_ins s v h.asc,fun p hp=>?_,ho'⟩,chg_grown hg⟩
 rcases mem_ins hp with rfl | hp
 ·exact hs
 ·exact h.short p hp
theorem MapS.drop (h:MapS P k w b l) {t e:TypeId} (ht:P.underlying t=some (.map k e)) (s:Nm) (hs:s.length≤1048576) (ty:TypeId):
  ∃w',(Builtin.delete_ #[t,k] ty #[.map (some b),.string (str s)]).run P w=.ok (.tuple #[]) w'∧MapS P k w' b (delK s l)∧Chg [b] w w':=by
 obtain⟨w',hr,ho,hg⟩:=h.owns.drop (Maps.string_keyed hk) ht (key_s hk s hs) ty
 have e:=datS_del h.asc s (ho.canon (Maps.string_keyed hk))
 rw[e] at ho
 have ho':=own_size ho
 rw[datS_size] at ho'
 exact⟨w',hr,⟨asc_del s h.asc,fun p hp=>h.short p (mem_del hp).1,ho'⟩,chg_grown hg.grown⟩
end
theorem MapS.len {P:Program} {k:TypeId} {w:World} {b:Nat} {l:List (Nm×Value)} (h:MapS P k w b l) {t e:TypeId} (ht:P.underlying t=some (.map k e)) (ty:TypeId):
  (Builtin.len_ #[t] ty #[.map (some b)]).run P w=.ok (.int .i64 l.length) w:=by
 have:=h.owns.len ht ty
 rw[datS_size] at this
 exact this
end Go.Aq.Fy
