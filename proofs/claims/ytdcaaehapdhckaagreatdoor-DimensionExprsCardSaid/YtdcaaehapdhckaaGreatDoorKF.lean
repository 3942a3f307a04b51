/- Decimal texts of integers. No program stands here. -/
import Derived.Lib.ItoaNum
import Derived.Lib.ParseIntB
import Derived.Test.YtdcaaehapdhckaaGreatDoorKB
import Derived.Lib.SlBuf
import Derived.Laws.IdiomCopy
import Derived.Test.YtdcaaehapdhckaaGreatDoorKE
import Derived.Test.YtdcaaehapdhckaaGreatDoorKA
import Derived.Test.YtdcaaehapdhckaaGreatDoorShelf
set_option linter.unusedSimpArgs false
set_option linter.unusedVariables false
set_option maxRecDepth 100000
namespace Go.Num
open Go.Lib

def isDig (b:UInt8):Bool:=decide (48≤b.toNat)&&decide (b.toNat≤57)
def dstep (a:Nat) (b:UInt8):Nat:=a*10+(b.toNat-48)
def dval (a:Nat) (l:List UInt8):Nat:=l.foldl dstep a
theorem dval_nil (a:Nat):dval a []=a:=by unfold dval; exact List.foldl_nil
theorem dval_cons (a:Nat) (b:UInt8) (r:List UInt8):dval a (b::r)=dval (a*10+(b.toNat-48)) r:=by unfold dval; rw[List.foldl_cons]; rfl
theorem dval_append (x y:List UInt8) (a:Nat):dval a (x++y)=dval (dval a x) y:=by unfold dval; exact List.foldl_append
theorem dval_shift (l:List UInt8):∀a,dval a l=a*10^l.length+dval 0 l:=by
 induction l with
 | nil=>intro a; simp[dval_nil]
 | cons b r ih=>
  intro a
  rw[dval_cons,dval_cons,ih,ih (0*10+(b.toNat-48)),List.length_cons,Nat.pow_succ,Nat.zero_mul,Nat.zero_add,Nat.add_mul,Nat.mul_assoc,Nat.mul_comm 10,Nat.add_assoc]
theorem dig_ofNat {n:Nat} (h:n<10):(UInt8.ofNat (48+n)).toNat=48+n:=by
 rw[UInt8.toNat_ofNat']
 omega
theorem isDig_ofNat {n:Nat} (h:n<10):isDig (UInt8.ofNat (48+n))=true:=by
 unfold isDig
 rw[dig_ofNat h]
 simp
 omega
theorem dec_small {n:Nat} (h:n<10):decDigits n = [UInt8.ofNat (48+n)]:=by rw[decDigits,dif_pos h]
theorem dec_big {n:Nat} (h:¬n<10):decDigits n=decDigits (n/10)++[UInt8.ofNat (48+n%10)]:=by rw[decDigits,dif_neg h]
theorem dec_val (n:Nat):dval 0 (decDigits n)=n:=by
 induction n using Nat.strongRecOn with
 | _ n ih=>
  by_cases h:n<10
  ·rw[dec_small h]
   rw[dval_cons,dval_nil]
   rw[dig_ofNat h]
   omega
  ·rw[dec_big h,dval_append,ih _ (by omega)]
   rw[dval_cons,dval_nil]
   rw[dig_ofNat (by omega)]
   omega
theorem dec_dig (n:Nat):(decDigits n).all isDig=true:=by
 induction n using Nat.strongRecOn with
 | _ n ih=>
  by_cases h:n<10
  ·rw[dec_small h]
   rw[List.all_cons,isDig_ofNat h]; rfl
  ·rw[dec_big h,List.all_append,ih _ (by omega)]
   rw[List.all_cons,isDig_ofNat (show n%10<10 by omega)]; rfl
theorem dec_ne (n:Nat):decDigits n≠[]:=by
 by_cases h:n<10
 ·rw[dec_small h]; simp
 ·rw[dec_big h]; simp
theorem dec_head {n:Nat} (h0:0<n):∃b r,decDigits n=b::r∧b.toNat≠48:=by
 induction n using Nat.strongRecOn with
 | _ n ih=>
  by_cases h:n<10
  ·rw[dec_small h]
   exact ⟨_,_,rfl,by rw[dig_ofNat h]; omega⟩
  ·rw[dec_big h]
   obtain ⟨b,r,e,hb⟩:=ih (n/10) (by omega) (by omega)
   rw[e]
   exact ⟨b,r++_,rfl,hb⟩
theorem dec_zero : decDigits 0 = [48]:=by rw[dec_small (by omega)]; rfl
theorem byte_of {b:UInt8} (h:isDig b=true):UInt8.ofNat (48+(b.toNat-48))=b:=by
 unfold isDig at h
 simp at h
 rw[show 48+(b.toNat-48)=b.toNat by omega]
 simp
theorem dig_lt {b:UInt8} (h:isDig b=true):b.toNat-48<10:=by
 unfold isDig at h
 simp at h
 omega
theorem dec_more : ∀(l:List UInt8) (a:Nat),0<a→l.all isDig=true→decDigits (dval a l)=decDigits a++l:=by
 intro l
 induction l with
 | nil=>intro a _ _; simp[dval_nil]
 | cons b r ih=>
  intro a ha hl
  rw[List.all_cons,Bool.and_eq_true] at hl
  have h1:=dig_lt hl.1
  rw[dval_cons,ih _ (by omega) hl.2,dec_big (n:=a*10+(b.toNat-48)) (by omega),show (a*10+(b.toNat-48))/10=a by omega,show (a*10+(b.toNat-48))%10=b.toNat-48 by omega,byte_of hl.1,List.append_assoc]
  rfl
theorem dec_canon {b:UInt8} {r:List UInt8} (h:(b::r).all isDig=true) (h0:b.toNat≠48∨r = []):decDigits (dval 0 (b::r))=b::r:=by
 rw[List.all_cons,Bool.and_eq_true] at h
 have h1:=dig_lt h.1
 have h2:isDig b=true:=h.1
 unfold isDig at h2
 simp at h2
 by_cases hb:b.toNat=48
 ·obtain rfl:r = []:=by
   rcases h0 with h0 | h0
   ·exact absurd hb h0
   ·exact h0
  rw[dval_cons,dval_nil]
  rw[dec_small (by omega),Nat.zero_mul,Nat.zero_add,byte_of h.1]
 ·rw[dval_cons,dec_more _ _ (by omega) h.2,dec_small (by omega),Nat.zero_mul,Nat.zero_add,byte_of h.1]
  rfl
def padK : Nat→Nat→List UInt8
 | 0,_=>[]
 | k+1,r=>padK k (r/10)++[UInt8.ofNat (48+r%10)]
theorem dec_group : ∀(k q r:Nat),0<q→r<10^k→decDigits (10^k*q+r)=decDigits q++padK k r:=by
 intro k
 induction k with
 | zero=>intro q r _ hr; simp at hr; subst hr; simp[padK]
 | succ k ih=>
  intro q r hq hr
  have e:10^(k+1)*q+r=10*(10^k*q)+r:=by rw[Nat.pow_succ,Nat.mul_comm (10^k) 10,Nat.mul_assoc]
  have h1:0<10^k*q:=Nat.mul_pos (Nat.pow_pos (by decide)) hq
  rw[e]
  generalize hX:10^k*q=X at *
  rw[dec_big (by omega),show (10*X+r)/10=X+r/10 by omega,show (10*X+r)%10=r%10 by omega,←hX,ih q (r/10) hq (by rw[Nat.pow_succ] at hr; omega),padK,List.append_assoc]
theorem pad_zero (k:Nat):padK k 0=List.replicate k 48:=by
 induction k with
 | zero=>rfl
 | succ k ih=>rw[padK,ih,List.replicate_succ']; rfl
theorem pad_dec : ∀(k r:Nat),r<10^(k+1)→padK (k+1) r=List.replicate (k+1-nDigits r) 48++decDigits r:=by
 intro k
 induction k with
 | zero=>
  intro r hr
  simp at hr
  rw[dec_small hr,nDigits_small hr]
  simp[padK,Nat.mod_eq_of_lt hr]
 | succ k ih=>
  intro r hr
  by_cases h:r<10
  ·rw[padK,Nat.div_eq_of_lt h,pad_zero,dec_small h,nDigits_small h,Nat.mod_eq_of_lt h]
   rfl
  ·rw[padK,ih (r/10) (by rw[Nat.pow_succ] at hr; omega),dec_big h,nDigits_big h,List.append_assoc,show k+1+1-(nDigits (r/10)+1)=k+1-nDigits (r/10) by omega]
theorem dec_nine {q r:Nat} (hq:0<q) (hr:r<1000000000):decDigits (1000000000*q+r)=decDigits q++(List.replicate (9-(decDigits r).length) 48++decDigits r):=by
 have h1:=dec_group 9 q r hq hr
 rw[pad_dec 8 r hr,←decDigits_length] at h1
 exact h1
theorem dec_length_le {k r:Nat} (h:r<10^(k+1)):(decDigits r).length≤k+1:=by
 rw[decDigits_length]
 induction k generalizing r with
 | zero=>simp at h; rw[nDigits_small h]; omega
 | succ k ih=>
  by_cases h1:r<10
  ·rw[nDigits_small h1]; omega
  ·rw[nDigits_big h1]
   have:=ih (r:=r/10) (by rw[Nat.pow_succ] at h; omega)
   omega
theorem dval_lt : ∀(l:List UInt8) (a:Nat),l.all isDig=true→dval a l<(a+1)*10^l.length:=by
 intro l
 induction l with
 | nil=>intro a _; simp[dval_nil]
 | cons b r ih=>
  intro a hl
  rw[List.all_cons,Bool.and_eq_true] at hl
  have h1:=dig_lt hl.1
  have h2:=ih (a*10+(b.toNat-48)) hl.2
  rw[dval_cons,List.length_cons,Nat.pow_succ,Nat.mul_comm (10^r.length) 10,←Nat.mul_assoc]
  exact Nat.lt_of_lt_of_le h2 (Nat.mul_le_mul_right _ (by omega))
theorem parse_group : ∀(l:List UInt8) (a n:Nat),l.all isDig=true→(a+1)*10^l.length≤n+1→n<1844674407370955162→parseUintM n a l=.ok (dval a l):=by
 intro l
 induction l with
 | nil=>intro a n _ _ _; rw[dval_nil]; rfl
 | cons b r ih=>
  intro a n hl hn hn2
  rw[List.all_cons,Bool.and_eq_true] at hl
  have h1:=dig_lt hl.1
  have h2:isDig b=true:=hl.1
  unfold isDig at h2
  simp at h2
  rw[List.length_cons,Nat.pow_succ,Nat.mul_comm (10^r.length) 10,←Nat.mul_assoc] at hn
  have hp:1≤10^r.length:=Nat.pow_pos (by decide)
  have h3:(a+1)*10*1≤(a+1)*10*10^r.length:=Nat.mul_le_mul_left _ hp
  have h4:(a*10+(b.toNat-48)+1)*10^r.length≤(a+1)*10*10^r.length:=Nat.mul_le_mul_right _ (by omega)
  rw[parseUintM,if_pos h2,if_neg (by omega),if_neg (by omega),ih _ _ hl.2 (by omega) hn2,dval_cons]
theorem parse_nine {l:List UInt8} (h0:l≠[]) (h:l.all isDig=true) (hl:l.length≤9):parseUintB 32 l=.ok (dval 0 l):=by
 unfold parseUintB
 rw[if_neg h0]
 refine parse_group l 0 _ h ?_ (by decide)
 have:10^l.length≤10^9:=Nat.pow_le_pow_right (by decide) hl
 omega
theorem itoa_neg {z:Int} (h:z<0):itoa z=45::decDigits z.natAbs:=by unfold itoa; rw[if_pos h]
theorem itoa_pos {z:Int} (h:0≤z):itoa z=decDigits z.natAbs:=by unfold itoa; rw[if_neg (by omega),show z.toNat=z.natAbs by omega]
end Go.Num
set_option maxRecDepth 100000
namespace Go.Proofs.YtdcaaehapdhckaaGreatDoor
open Go.RowKit Go.Num
set_option maxHeartbeats 8000000

structure Glob (w:World):Prop where
 tab:Lib.TabIs Tryz.prog w "internal/strconv.uint64pow10" .u64 Lib.pow10Tab
 maxl:∃m,w.cell? ⟨0,0,none⟩=some (.int .i64 m)
theorem Glob.below {w w':World} (h:Glob w) (hb:Below w.heap.size w w'):Glob w':=by
 have ht:=h.tab
 refine ⟨?_,?_⟩
 ·unfold Lib.TabIs World.var? at *
  cases hg:Tryz.prog.globalNamed "internal/strconv.uint64pow10" with
  | none=>rw[hg] at ht; cases ht
  | some g=>
   rw[hg] at ht
   simp only[Option.bind_some] at ht⊢
   have hi:g<w.heap.size:=by
    rcases Nat.lt_or_ge g w.heap.size with h | h
    ·exact h
    ·rw[Array.getElem?_eq_none h] at ht; cases ht
   rw[hb.block g hi]
   exact ht
 ·obtain ⟨m,hm⟩:=h.maxl
  exact ⟨m,ZJ hb hm⟩
theorem below_grow (w:World) (n:Nat) (os:Array Obj):Below w.heap.size w (Sort.grow (w.drewN n) os):=
 ⟨rfl,rfl,rfl,by simp[Sort.grow],fun j hj=>by simp only[Sort.grow]; exact Array.getElem?_append_left hj⟩
theorem Itoa_any {n:Int} (h0:-9223372036854775808≤n) (h1:n≤9223372036854775807) {w:World} (hg:Glob w) :
  Calls Tryz.prog 113 #[.int .i64 n] w fun e w'=>e=.returned (.string ⟨(Lib.itoa n).toArray⟩)∧Below w.heap.size w w':=
 (Tryz.strconv_Itoa n h0 h1 w hg.tab).mono fun _ _ ⟨a,k,os,b⟩=>⟨a,b▸below_grow w k os⟩
theorem infoStr : (Tryz.prog.info? 9).map (fun i=>(i.zero,i.size,i.bytes))=some (some (.string ⟨#[]⟩),1,16):=by kernel_rfl
theorem repeat_zero (n:Nat):Lib.repeatL [48] n=List.replicate n 48:=by
 induction n with
 | zero=>rfl
 | succ n ih=>rw[Lib.repeatL,ih,List.replicate_succ]; rfl
theorem join_empty (xs:List (List UInt8)):Lib.join xs []=xs.flatten:=by
 cases xs with
 | nil=>rfl
 | cons x r=>
  rw[Lib.join_cons,Lib.joinTail]
  simp
def txt (l:List Nat):List UInt8:=if l = [] then [] else Lib.decDigits (val l)
theorem dec_len_le {n V:Nat} (h:V<pw n) (hn:0<n):(Lib.decDigits V).length≤10*n:=by
 have h1:∀m,pw m≤10^(10*m):=by
  intro m
  induction m with
  | zero=>simp[pw]
  | succ m ih=>
   rw[pw,show 10*(m+1)=10+10*m by omega,Nat.pow_add]
   exact Nat.mul_le_mul (by decide) ih
 obtain ⟨k,rfl⟩:∃k,n=k+1:=⟨n-1,by omega⟩
 have h2:V<10^(10*k+9+1):=Nat.lt_of_lt_of_le h (h1 (k+1))
 have:=dec_length_le h2
 omega
theorem txt_step {l q:List Nat} {r:Nat} (hl:l≠[]) (hq:Norm q) (hv:val l=1000000000*val q+r) (hr:r<1000000000) :
  txt l=txt q++(if q = [] then Lib.decDigits r else List.replicate (9-(Lib.decDigits r).length) 48++Lib.decDigits r):=by
 unfold txt
 rw[if_neg hl]
 by_cases h:q = []
 ·rw[if_pos h,if_pos h,hv,h]
  simp[val]
 ·rw[if_neg h,if_neg h,hv,dec_nine (Nat.pos_of_ne_zero fun h0=>h ((norm_pos hq).1 h0)) hr]
def strV (l:List UInt8):Value:=.string ⟨l.toArray⟩
theorem itoa_nat (n:Nat):Lib.itoa (n:Int)=Lib.decDigits n:=by
 rw[itoa_pos (by omega)]
 rfl
def StrRow (w:World) (B:Nat) (v:Value) (gs:List (List UInt8)):Prop:=w.ownsRow B 9 1 v gs.length (gs.map strV)
structure hbl3 (w w':World):Prop where
 b:Below w.heap.size w w'
theorem str_kept {w w':World} {B:Nat} {v:Value} {gs:List (List UInt8)} (h:StrRow w B v gs) (hb:Below w.heap.size w w'):StrRow w' B v gs:=by
 rcases h.2 with h1 | ⟨g,cap,cur,h1,h2,h3,h4⟩
 ·exact ⟨h.1,.inl h1⟩
 ·exact ⟨h.1,.inr ⟨g,cap,cur,h1,h2,(hb.block g (ZL h3)).trans h3,h4⟩⟩
theorem str_snoc {w:World} {B:Nat} {v:Value} {gs:List (List UInt8)} {S:ByteArray} (h:w.ownsRow B 9 1 v (gs.length+1) (gs.map strV++[.string S])):StrRow w B v (gs++[S.data.toList]):=by
 unfold StrRow
 rw[List.length_append,List.map_append]
 exact h
theorem str_glue {l t:List Nat} {gs:List (List UInt8)} {S:ByteArray} {D:List UInt8} (h:txt l++gs.reverse.flatten=D) (ht:txt l=txt t++S.data.toList):txt t++(gs++[S.data.toList]).reverse.flatten=D:=by
 rw[←h,ht]
 simp
theorem MagIn.grown {w w':World} {row:Option Nat} {v:Value} {l:List Nat} (h:MagIn w v l) (hg:w.grownBy w' row) (hne:∀p n c,v=.slice (some p) n c→some p.block≠row):MagIn w' v l:=by
 obtain ⟨ao,c,e,h1,h2,h3,h4⟩:=h
 refine ⟨ao,c,e,h1,h2,h3,fun h0=>?_⟩
 obtain ⟨b,off,e2,hlt,hc⟩:=h4 h0
 exact ⟨b,off,e2,Nat.lt_of_lt_of_le hlt hg.size,fun j hj=>hg.cell (hc j hj) (hne ⟨b,off,none⟩ _ _ (by rw[e,e2]))⟩
theorem str_lt {w:World} {B:Nat} {v:Value} {gs:List (List UInt8)} (h:StrRow w B v gs):∀k,v.ownBlock=some k→k<w.heap.size:=fun k hk=>(World.ownsRow.lt h k hk).2
theorem groups_le {l:List Nat} {gs:List (List UInt8)} {D:List UInt8} (h:txt l++gs.reverse.flatten=D) (hg:∀g∈gs,g≠[]):gs.length≤D.length:=by
 have h1:∀(ls:List (List UInt8)),(∀g∈ls,g≠[])→ls.length≤ls.flatten.length:=by
  intro ls
  induction ls with
  | nil=>intro _; simp
  | cons x r ih=>
   intro hx
   have h2:=ih fun g hg=>hx g (by simp[hg])
   have h3:0<x.length:=List.length_pos_iff.2 (hx x (by simp))
   simp only[List.flatten_cons,List.length_append,List.length_cons]
   omega
 have h2:=h1 gs.reverse fun g hg2=>hg g (List.mem_reverse.1 hg2)
 rw[←h,List.length_append]
 rw[List.length_reverse] at h2
 omega
theorem Text_any {w:World} {va:Value} {z:Int} {k:Nat} (ha:IntIn w va z k) (hk:k≤900000) (hgl:Glob w):Calls Tryz.prog 79 #[va] w fun e w'=>e=.returned (.string ⟨(Lib.itoa z).toArray⟩)∧Below w.heap.size w w':=by
 obtain ⟨na,ao,ca,la,rfl,hma,hna,hsa,rfl,hka,hc1,hc2⟩:=int_sign ha
 obtain ⟨N,hN⟩:∃N,N=la.length:=⟨_,rfl⟩
 obtain ⟨wa,hwa⟩:∃wa,wa=w.alloc (.cells #[.bool na,.slice ao N ca] 45):=⟨_,rfl⟩
 obtain ⟨ba,hba⟩:∃ba,ba=w.heap.size:=⟨_,rfl⟩
 have hal:Below w.heap.size w wa:=by rw[hwa]; exact (ZR _ w).alloc (Nat.le_refl _) _
 have hblk:wa.heap[ba]?=some (.cells #[.bool na,.slice ao N ca] 45 (0,0)):=by rw[hwa,hba]; exact ZW w _
 have x1:=ZI hblk 1
 simp at x1
 rw[←hN] at hc1⊢
 have HM:=ZH (ZN (hma.below hal) (ZN hna (ZN hka hN)))
 have HS:=ZH hsa
 have HAL:=ZH hal
 have HB:=ZH hblk
 have HG:=ZH (hgl.below hal)
 have HW:=ZH (ZN hwa hba)
 clear ha hma hna hka hsa hal hblk hgl hwa hba
 by_cases h0:N=0
 ·have hl0:la = []:=List.length_eq_zero_iff.1 (by omega)
  have hz:Lib.itoa (int na la) = [48]:=by
   rw[int_zero (by rw[hl0]; rfl)]
   exact (itoa_pos (by omega)).trans dec_zero
  have HZ:=ZH hz
  subst h0
  clear hz hN hl0
  go_enter Tryz.func79,Tryz.ntmps79
  go_upto_region 1 with fail
  rw[←HW.out.1,←HW.out.2]
  clear HW
  go_wp2_with fail
  go_ret
  exact ⟨by rw[HZ.out]; rfl,HAL.out⟩
 ·have e1:((N:Int)==0)=false:=ZQ.2 (by omega)
  clear h0
  obtain ⟨i0,hi,hz0,hz1,hz2⟩:=info_parts infoStr
  have HI:=ZH (ZN hi (ZN hz0 (ZN hz1 hz2)))
  have hN0:0<N:=by
   have:((N:Int)==0)=false:=e1
   simp at this
   omega
  have HNE:=ZH (show la≠[] from fun h=>by rw[h] at hN; simp at hN; omega)
  clear hi hz0 hz1 hz2 hN hN0
  go_enter Tryz.func79,Tryz.ntmps79
  go_upto_region 1 with fail
  rw[←HW.out.1,←HW.out.2]
  clear HW
  go_wp2_with fail
  go_loopg [3,4] (val la) (fun gk gv mv wr=>∃(l:List Nat) (a1:Option Addr) (c1:Nat) (gs:List (List UInt8)),mv=.slice a1 l.length c1∧l.length≤c1∧c1≤9223372036854775807∧Hid (MagIn wr (.slice a1 l.length c1) l∧Norm l∧l.length≤k∧StrRow wr wa.heap.size gv gs∧txt l++gs.reverse.flatten=Lib.decDigits (val la)∧(∀g∈gs,g≠[])∧val l≤gk∧(l = []→0<gs.length))∧Hid (Below wa.heap.size wa wr))
  case atStart=>
   refine ⟨la,ao,ca,[],by rw[HM.out.2.2.2],by have:=HM.out.2.2.2; omega,hc2,ZH ⟨HM.out.1,HM.out.2.1,HM.out.2.2.1,World.ownsRow_nil _ _ _ _,?_,(fun g hg=>by cases hg),Nat.le_refl _,fun h=>absurd h HNE.out⟩,ZH (ZR _ _)⟩
   unfold txt
   rw[if_neg HNE.out]
   simp
  case round=>
   obtain ⟨l,a1,c1,gs,rfl,hd1,hd2,hm,hbw⟩:=hrel
   obtain ⟨M,hM⟩:∃M,M=l.length:=⟨_,rfl⟩
   rw[←hM] at hd1⊢
   have HMM:=ZH hM
   have HGN:=ZH (show gs.length≤9000000 from by
    have h1:=groups_le hm.out.2.2.2.2.1 hm.out.2.2.2.2.2.1
    have h2:=val_lt HM.out.1.choose_spec.choose_spec.2.2.2.1
    have h3:=HM.out.2.2.2
    have h4:=HM.out.2.2.1
    have h5:=dec_len_le h2 (by rw[←h3]; exact Nat.pos_of_ne_zero (fun h=>by rw[h] at e1; simp at e1))
    omega)
   clear hM
   by_cases h0:M=0
   ·subst h0
    have hl0:l = []:=List.length_eq_zero_iff.1 HMM.out.symm
    have hgs:=hm.out.2.2.2.2.2.2.2 hl0
    obtain ⟨g,cg,rfl,hgB,hgl⟩:=World.ownsRow.form hm.out.2.2.2.1 hgs
    have hflat:gs.reverse.flatten=Lib.decDigits (val la):=by
     have:=hm.out.2.2.2.2.1
     rw[hl0] at this
     simpa[txt] using this
    have hcells:∀j,j<gs.length→wr.cell? ⟨g,0+j,none⟩=some (.string ⟨(gs.getD j []).toArray⟩):=fun j hj=>by
     rw[Nat.zero_add,World.ownsRow.cellAt hm.out.2.2.2.1 j (by omega)]
     simp[List.getD_eq_getElem?_getD,hj,strV]
    have hrev:=Tryz.slices_Reverse_string_cells g 0 gs.length cg (fun j=>⟨(gs.getD j []).toArray⟩) wr (by have:=HGN.out; omega) hcells (fun j _=>World.ownsRow.frozenAt hm.out.2.2.2.1 (0+j))
    have HREV:=ZH hrev
    have HGS:=ZH (ZN hgs (ZN hgB (ZN hflat hcells)))
    have hgs9:=HGN.out
    have HDL:=ZH (show (Lib.decDigits (val la)).length≤9000000 from by
     have h2:=val_lt HM.out.1.choose_spec.choose_spec.2.2.2.1
     have h3:=HM.out.2.2.2
     have h4:=HM.out.2.2.1
     have h5:=dec_len_le h2 (by rw[←h3]; exact Nat.pos_of_ne_zero (fun h=>by rw[h] at e1; simp at e1))
     omega)
    have HCG:=ZH (show gs.length≤cg by
     rcases hm.out.2.2.2.1.2 with ⟨h1,_⟩ | ⟨g',cap',cur,h1,_,_,h2,_⟩
     ·simp at h1
     ·simp only[Value.slice.injEq,Option.some.injEq,Addr.mk.injEq,and_true,true_and] at h1
      rw[h1.2]
      exact h2)
    clear hl0 hgs hgB hflat hcells hrev hgl
    go_upto_region 12 with fail
    go_wp2_with fail
    refine HREV.out.mono ?_
    rintro e w2 ⟨rfl,q,hw2⟩
    have hvs:∀j,j<gs.length→w2.cell? ⟨g,0+j,none⟩=some (.string ⟨(gs.reverse.getD j []).toArray⟩):=fun j hj=>by
     rw[hw2]
     have hlen:((Lib.strsOf (fun j=>(⟨(gs.getD j []).toArray⟩:ByteArray)) gs.length).reverse.map encStr).length=gs.length:=by simp[Lib.strsOf]
     rw[World.cell?_setCells_in g _ 0 (wr.drewN q) (fun i hi=>by
      rw[hlen] at hi
      have:=HGS.out.2.2.2 i hi
      show (wr.cell? ⟨g,0+i,none⟩).isSome=true
      rw[this]
      rfl) j (by rw[hlen]; exact hj)]
     simp[Lib.strsOf,encStr,List.getD_eq_getElem?_getD,hj]
     rw[List.getElem?_eq_getElem (by omega)]
     rfl
    have hb2:Below wa.heap.size wa w2:=by
     rw[hw2]
     exact Lib.below_setCells g HGS.out.2.1 _ 0 (hbw.out.trans (below_drawn wr q |>.mono hbw.out.size))
    have hjl:Lib.join ((gs.reverse.map fun l=>(⟨l.toArray⟩:ByteArray)).map (·.data.toList)) (⟨#[]⟩:ByteArray).data.toList=Lib.decDigits (val la):=by
     rw[show (⟨#[]⟩:ByteArray).data.toList = [] from rfl,join_empty,List.map_map,←HGS.out.2.2.1]
     congr 1
     exact List.map_id' _
    have hdl:(Lib.decDigits (val la)).length≤140737488355328:=by have:=HDL.out; omega
    have hjn:=Tryz.strings_Join g 0 cg (gs.reverse.map fun l=>(⟨l.toArray⟩:ByteArray)) ⟨#[]⟩ w2 (fun j x hx=>by
     rw[List.getElem?_map] at hx
     obtain ⟨y,hy,rfl⟩:=Option.map_eq_some_iff.1 hx
     have hj:=(List.getElem?_eq_some_iff.1 hy).1
     rw[List.length_reverse] at hj
     rw[hvs j hj,List.getD_eq_getElem?_getD,hy]
     rfl) (World.block_lt_of_cell? w2 ⟨g,0+0,none⟩ (hvs 0 HGS.out.1)) (by simp; omega) (by simpa using HCG.out) (by
      rw[hjl]
      exact hdl)
    rw[hjl,List.length_map,List.length_reverse] at hjn
    have HJN:=ZH hjn
    have HB2:=ZH hb2
    clear hvs hb2 hjn hw2 hjl hdl hgs9
    go_wp2_with fail
    refine HJN.out.mono ?_
    rintro e w3 ⟨rfl,hb3⟩
    have hb13:Below wa.heap.size wa w3:=HB2.out.trans (hb3.mono HB2.out.size)
    have y0:=ZI ((hb13.block ba (ZL HB.out)).trans HB.out) 0
    simp at y0
    obtain ⟨T,hT⟩:∃T:ByteArray,T=⟨(Lib.decDigits (val la)).toArray⟩:=⟨_,rfl⟩
    rw[←hT]
    have hTz:T.size≤9000000:=by rw[hT]; exact HDL.out
    have H3:=ZH (ZN hT hb13)
    clear hT hb3 hb13
    cases na with
    | false=>
     go_wp2_with fail
     go_ret
     refine ⟨?_,HAL.out.trans (H3.out.2.mono HAL.out.size)⟩
     rw[H3.out.1]
     show Ending.returned (.string ⟨(Lib.decDigits (val la)).toArray⟩)=_
     rw[show int false la=(val la:Int) from rfl,itoa_nat]
    | true=>
     go_wp2_with fail
     go_ret
     refine ⟨?_,HAL.out.trans (H3.out.2.mono HAL.out.size)⟩
     have hz:int true la<0:=by
      have h1:val la≠0:=fun h=>by
       have:=HS.out ((norm_pos HM.out.2.1).1 h)
       cases this
      show -(val la:Int)<0
      omega
     rw[itoa_neg hz,int_abs,H3.out.1]
     rfl
   ·have e2:((0:Int)<(M:Int))=True:=eq_true (by omega)
    have e3:0<M:=by omega
    have hmag:=hm.out.1
    rw[←HMM.out] at hmag
    have HSH:=ZH (short_new (d:=1000000000) hm.out.1 (by have:=hm.out.2.2.1; omega) (by omega) (by omega))
    clear h0 hmag
    go_wp2_with fail
    rw[HMM.out]
    refine HSH.out.mono ?_
    rintro e w2 ⟨qv,q,r,rfl,hq1,hq2,hq3,hq4,hq5,hb2,hnew⟩
    obtain ⟨a3,c3,rfl,hl1,hl2⟩:=mag_len hq1
    have H2:=ZH (ZN hq1 (ZN hq2 (ZN hq3 (ZN hq5 hb2))))
    have HNEW:=ZH hnew
    clear hq1 hq2 hq3 hq5 hb2 hnew
    have hrw:(r:Int)≤999999999:=by omega
    go_wp2_with fail
    refine (Itoa_any (by omega) (by omega) ((HG.out.below hbw.out).below H2.out.2.2.2.2)).mono ?_
    rintro e w3 ⟨rfl,hb3⟩
    rw[itoa_nat]
    obtain ⟨S,hS⟩:∃S:ByteArray,S=⟨(Lib.decDigits r).toArray⟩:=⟨_,rfl⟩
    rw[←hS]
    have hSl:S.data.toList=Lib.decDigits r:=by rw[hS]
    have hSz:S.size≤9:=by
     have h1:=dec_length_le (k:=8) (r:=r) (by omega)
     rw[←hSl] at h1
     exact h1
    have H3:=ZH (ZN hSl hb3)
    have HW3:=ZH (hbw.out.trans ((H2.out.2.2.2.2.trans (hb3.mono H2.out.2.2.2.2.size)).mono hbw.out.size))
    clear hS hSl hb3
    by_cases hq0:q = []
    ·subst hq0
     have HSN:=ZH (show S.data.toList≠[] by rw[H3.out.1]; exact dec_ne r)
     have hgr:hbl3 wr w3:=⟨H2.out.2.2.2.2.trans (H3.out.2.mono H2.out.2.2.2.2.size)⟩
     have HT:=ZH (show txt l=S.data.toList by
      have:=txt_step (r:=r) (fun h=>by rw[h] at HMM; have:=HMM.out; simp at this; omega) norm_nil H2.out.2.2.1 (by omega)
      rw[this,H3.out.1]
      simp[txt])
     have HROW:=ZH (str_kept hm.out.2.2.2.1 hgr.1)
     clear hgr
     go_upto_region 10 with fail
     go_wp2_with (at_builtin; refine wpList_append_own _ rfl _ _ 147 rfl wa.heap.size 9 i0 _ 1 16 Tryz.underlying147 HI.out.1 HI.out.2.1 HI.out.2.2.1 HI.out.2.2.2 rfl (by decide) _ _ _ rfl (HROW.out.alloc _) ⟨w3.heap.size,0,none⟩ 1 1 [.string S] rfl rfl ?c1 ?c2 ?c3 ?c4 ?c5 ?_)
     case c1=>exact World.news_of_block (ZW w3 _)
     case c2=>simp[Value.oneCell']
     case c3=>have:=HGN.out; unfold maxLen; omega
     case c4=>have:=HGN.out; omega
     case c5=>have:=HW3.out.size; simp; omega
     intro v' w4 hown' hgrow _
     have hb4:=(HW3.out.alloc (by have:=HW3.out.size; omega) (.cells #[.string S] 9)).grown hgrow (by have:=HW3.out.size; simp; omega) (fun q e=>(HROW.out.lt q e).1)
     have hm4:=MagIn.grown ((H2.out.1.below H3.out.2).below ((ZR _ w3).alloc (Nat.le_refl _) (.cells #[.string S] 9))) hgrow (fun p n c h e=>by
      have h1:=HNEW.out p n c h
      have h2:=str_lt hm.out.2.2.2.1 p.block e.symm
      omega)
     have hgl2:=str_glue hm.out.2.2.2.2.1 (t:=[]) (S:=S) (by rw[HT.out]; simp[txt])
     have H4:=ZH (ZN (str_snoc hown') (ZN hb4 (ZN hgl2 hm4)))
     clear hown' hgrow hb4 hgl2 hm4
     go_wp2_with fail
     go_roundg (val [])
     case measure=>
      have h1:=hm.out.2.2.2.2.2.2.1
      have h2:=H2.out.2.2.1
      have h3:val l≠0:=fun h=>by
       have:=(norm_pos hm.out.2.1).1 h
       rw[this] at HMM
       have:=HMM.out
       simp at this
       omega
      omega
     case rel=>
      exact ⟨[],a3,c3,gs++[S.data.toList],rfl,hl1,hl2,ZH ⟨H4.out.2.2.2,H2.out.2.1,Nat.zero_le _,H4.out.1,H4.out.2.2.1,fun g hg=>by
       rcases List.mem_append.1 hg with h | h
       ·exact hm.out.2.2.2.2.2.1 g h
       ·rw[List.mem_singleton.1 h]
        exact HSN.out,Nat.le_refl _,fun _=>by simp⟩,ZH H4.out.2.1⟩
    ·have hqn:0<q.length:=List.length_pos_iff.2 hq0
     obtain ⟨NQ,hNQ⟩:∃N,N=q.length:=⟨_,rfl⟩
     rw[←hNQ] at hqn hl1⊢
     have e4:((0:Int)<(NQ:Int))=True:=eq_true (by omega)
     have HNQ:=ZH (ZN hNQ hq0)
     have hS9:(S.size:Int)≤9:=by omega
     clear hq0 hNQ
     go_wp2_with fail
     rw[show (9-(S.size:Int))=((9-S.size:Nat):Int) by omega]
     refine (Tryz.strings_Repeat ⟨#[48]⟩ (9-S.size) w3 (by omega) (by show 1*(9-S.size)≤140737488355328; omega)).mono ?_
     rintro e w4 ⟨rfl,hb4⟩
     obtain ⟨Rp,hRp⟩:∃R:ByteArray,R=⟨(Lib.repeatL (⟨#[48]⟩:ByteArray).data.toList (9-S.size)).toArray⟩:=⟨_,rfl⟩
     rw[←hRp]
     have hRl:Rp.data.toList=List.replicate (9-S.size) 48:=by rw[hRp]; exact repeat_zero _
     have hRz:Rp.size≤9:=by
      have h1:Rp.data.toList.length=9-S.size:=by rw[hRl,List.length_replicate]
      have h2:Rp.data.toList.length=Rp.size:=rfl
      omega
     have HR:=ZH (ZN hRl hb4)
     clear hRp hRl hb4
     go_upto_region 10 with fail
     obtain ⟨T,hT⟩:∃T:ByteArray,T=Rp++S:=⟨_,rfl⟩
     rw[←hT]
     have hTl:T.data.toList=List.replicate (9-(Lib.decDigits r).length) 48++Lib.decDigits r:=by
      rw[hT,ByteArray.data_append,Array.toList_append,HR.out.1,H3.out.1]
      congr 3
      rw[←H3.out.1]
      rfl
     have HSN:=ZH (show T.data.toList≠[] by rw[hTl]; intro h; exact dec_ne r (List.append_eq_nil_iff.1 h).2)
     have HT:=ZH (show txt l=txt q++T.data.toList by
      have:=txt_step (r:=r) (fun h=>by rw[h] at HMM; have:=HMM.out; simp at this; omega) H2.out.2.1 H2.out.2.2.1 (by omega)
      rw[this,if_neg HNQ.out.2,hTl])
     have hb3:=H3.out.2.trans (HR.out.2.mono H3.out.2.size)
     have HW3':=ZH (hbw.out.trans ((H2.out.2.2.2.2.trans (hb3.mono H2.out.2.2.2.2.size)).mono hbw.out.size))
     have HB3:=ZH hb3
     have hgr:hbl3 wr w4:=⟨H2.out.2.2.2.2.trans (hb3.mono H2.out.2.2.2.2.size)⟩
     clear hT hTl hb3
     have HROW:=ZH (str_kept hm.out.2.2.2.1 hgr.1)
     clear hgr
     go_upto_region 10 with fail
     go_wp2_with (at_builtin; refine wpList_append_own _ rfl _ _ 147 rfl wa.heap.size 9 i0 _ 1 16 Tryz.underlying147 HI.out.1 HI.out.2.1 HI.out.2.2.1 HI.out.2.2.2 rfl (by decide) _ _ _ rfl (HROW.out.alloc _) ⟨w4.heap.size,0,none⟩ 1 1 [.string T] rfl rfl ?c1 ?c2 ?c3 ?c4 ?c5 ?_)
     case c1=>exact World.news_of_block (ZW w4 _)
     case c2=>simp[Value.oneCell']
     case c3=>have:=HGN.out; unfold maxLen; omega
     case c4=>have:=HGN.out; omega
     case c5=>have:=HW3'.out.size; simp; omega
     intro v' w5 hown' hgrow _
     have hb4:=(HW3'.out.alloc (by have:=HW3'.out.size; omega) (.cells #[.string T] 9)).grown hgrow (by have:=HW3'.out.size; simp; omega) (fun q e=>(HROW.out.lt q e).1)
     have hm4:=MagIn.grown ((H2.out.1.below HB3.out).below ((ZR _ w4).alloc (Nat.le_refl _) (.cells #[.string T] 9))) hgrow (fun p n c h e=>by
      have h1:=HNEW.out p n c h
      have h2:=str_lt hm.out.2.2.2.1 p.block e.symm
      omega)
     have hgl2:=str_glue hm.out.2.2.2.2.1 (t:=q) (S:=T) HT.out
     have H4:=ZH (ZN (str_snoc hown') (ZN hb4 (ZN hgl2 hm4)))
     clear hown' hgrow hb4 hgl2 hm4
     go_wp2_with fail
     go_roundg (val q)
     case measure=>
      have h1:=hm.out.2.2.2.2.2.2.1
      have h2:=H2.out.2.2.1
      have h3:val l≠0:=fun h=>by
       have:=(norm_pos hm.out.2.1).1 h
       rw[this] at HMM
       have:=HMM.out
       simp at this
       omega
      omega
     case rel=>
      exact ⟨q,a3,c3,gs++[T.data.toList],by rw[HNQ.out.1],by rw[←HNQ.out.1]; exact hl1,hl2,ZH ⟨H4.out.2.2.2,H2.out.2.1,Nat.le_trans H2.out.2.2.2.1 hm.out.2.2.1,H4.out.1,H4.out.2.2.1,fun g hg=>by
       rcases List.mem_append.1 hg with h | h
       ·exact hm.out.2.2.2.2.2.1 g h
       ·rw[List.mem_singleton.1 h]
        exact HSN.out,Nat.le_refl _,fun _=>by simp⟩,ZH H4.out.2.1⟩
end Go.Proofs.YtdcaaehapdhckaaGreatDoor
set_option maxRecDepth 100000
namespace Go.Proofs.YtdcaaehapdhckaaGreatDoor
open List renaming setIfInBounds_toArray → zLa, set_cons_zero → zLb, set_cons_succ → zLc, take_succ_cons → zLd, take_zero → zLe
open Act renaming put → zAp
open Nat renaming zero_add → zNz
open Go.RowKit Go.Num Go.Flow
set_option maxHeartbeats 8000000
set_option linter.unusedVariables false

def numText (r:Rat):List UInt8:=if isInt r=true then Lib.itoa r.num else Lib.itoa r.num++(47::Lib.decDigits r.den)
theorem cat3 (a b:List UInt8):(⟨a.toArray⟩++⟨#[47]⟩++⟨b.toArray⟩:ByteArray)=⟨(a++47::b).toArray⟩:=by
 apply ByteArray.ext
 simp[ByteArray.data_append]
theorem itoa_len {w:World} {v:Value} {z:Int} {k:Nat} (h:IntIn w v z k) (hk:k≤900000):(Lib.itoa z).length≤9000001:=by
 obtain ⟨neg,ms,l,-,hm,hn,-,rfl,hl⟩:=h
 obtain ⟨_,_,_,_,_,ok,_⟩:=hm
 have h1:(Lib.decDigits (val l)).length≤9000000:=by
  rcases Nat.eq_zero_or_pos l.length with h0 | h0
  ·rw[List.length_eq_zero_iff.1 h0]
   show (Lib.decDigits 0).length≤_
   rw[dec_zero]
   simp
  ·have:=dec_len_le (val_lt ok) h0
   omega
 by_cases hz:int neg l<0
 ·rw[itoa_neg hz,int_abs,List.length_cons]; omega
 ·rw[itoa_pos (by omega),int_abs]; omega
theorem Number_any {w:World} {va:Value} {r:Rat} {k:Nat} (ha:RtIn w va r k) (hkm:k≤900000) (hg:Glob w):Calls Tryz.prog 37 #[va] w fun e w'=>e=.returned (.string ⟨(numText r).toArray⟩)∧Below w.heap.size w w':=by
 obtain ⟨qa,⟨na1,ma1,na2,ma2,rfl,hna,hda,hqa⟩,hqda⟩:=ha
 obtain ⟨wa,hwa⟩:∃wa,wa=w.alloc (.cells #[.bool na1,ma1,.bool na2,ma2] 47):=⟨_,rfl⟩
 obtain ⟨ba,hba⟩:∃b,b=w.heap.size:=⟨_,rfl⟩
 have hal:Below w.heap.size w wa:=by rw[hwa]; exact (ZR _ w).alloc (Nat.le_refl _) _
 have k0:wa.heap[ba]?=some (.cells #[.bool na1,ma1,.bool na2,ma2] 47 (0,0)):=by rw[hwa,hba]; exact ZW w _
 have HBba:=ZH k0
 have HAL:=ZH hal
 have HW0:=ZH (ZR wa.heap.size wa)
 have HW:=ZH (ZN hwa hba)
 have HRa:=ZH (show RtIn wa (.agg #[.bool na1,ma1,.bool na2,ma2]) r k from ⟨qa,⟨_,_,_,_,rfl,hna.below hal,hda.below hal,hqa⟩,hqda⟩)
 have HNa:=ZH (hna.below hal)
 have HDa:=ZH (ZN hqda (hda.below hal))
 clear hna hda hqa hqda
 have HG:=ZH (hg.below hal)
 clear hg
 clear hal hwa hba k0
 go_enter Tryz.func37,Tryz.ntmps37
 go_upto_region 1 with fail
 rw[←HW.out.1,←HW.out.2]
 clear HW
 refine wp_region_seq [0,1] 2 (fun i v w'=>match i with
  | 0=>v=.agg #[.bool na1,ma1,.bool na2,ma2]
  | _=>v=.bool (isInt r)) rfl rfl (by kernel_rfl) (by kernel_rfl) ?st ?steps ?fin
 case st=>
  intro i v w1 w2 h hb
  match i with
  | 0 | _+1=>exact h
 case steps=>
  refine Steps.cons (Step.of rfl ?s0) (Steps.cons (Step.of rfl ?s1) Steps.nil)
  case s0=>
   intro xs w' hb hT K hK
   clear hT
   simp only[zLd,zLe,putAll,zAp,zLa,zLb,zLc,zNz] at hK⊢
   have hw:=Flow.hwP HW0.out hb
   have kb:=(hw.block ba (ZL HBba.out)).trans HBba.out
   have y0:=ZI kb 0
   have y1:=ZI kb 1
   have y2:=ZI kb 2
   have y3:=ZI kb 3
   clear kb
   simp at y0 y1 y2 y3
   go_simp
   exact hK _ _ (ZR _ _) rfl
  case s1=>
   intro xs w' hb hT K hK
   have h0:(xs 0)=.agg #[.bool na1,ma1,.bool na2,ma2]:=hT 0 (by kernel_rfl)
   clear hT
   simp only[zLd,zLe,putAll,zAp,zLa,zLb,zLc,zNz] at hK⊢
   have hw:=Flow.hwP HW0.out hb
   (try simp only[h0] at hK)
   go_simp
   go_at_call 78
   refine (rwhole_any (HRa.out.below hw)).mono ?_
   rintro e w3 ⟨rfl,hb3⟩
   exact hK _ _ hb3 rfl
 case fin=>
  intro xs w' hb hT
  have hw:=Flow.hwP HW0.out hb
  have h1:(xs 1)=.bool (isInt r):=hT 1 (by omega)
  clear hT
  simp only[zLd,zLe,putAll,zAp,zLa,zLb,zLc,zNz,List.drop_succ_cons,List.drop_zero]
  by_cases hc:isInt r=true
  ·rw[hc] at h1
   simp only[h1]
   clear h1
   refine wpList_nil ?_
   obtain ⟨w1,e1⟩:∃w1,w1=w':=⟨_,rfl⟩
   rw[←e1] at hw⊢
   have HW1:=ZH hw
   clear hb hw e1
   have HE:=ZH (show numText r=Lib.itoa r.num by unfold numText; rw[if_pos hc])
   clear hc
   go_upto_region 2 with fail
   refine wp_region_seq [0,1,2,3] 4 (fun i v w'=>match i with
    | 0=>v=.pointer (some ⟨ba,0,none⟩)
    | 1=>v=.agg #[.bool na1,ma1]
    | 2=>v=.string ⟨(Lib.itoa r.num).toArray⟩
    | _=>v=.string ⟨(Lib.itoa r.num).toArray⟩) rfl rfl (by kernel_rfl) (by kernel_rfl) ?st ?steps ?fin
   case st=>
    intro i v w1 w2 h hb
    match i with
    | 0 | 1 | 2 | _+3=>exact h
   case steps=>
    refine Steps.cons (Step.of rfl ?s0) (Steps.cons (Step.of rfl ?s1) (Steps.cons (Step.of rfl ?s2) (Steps.cons (Step.of rfl ?s3) Steps.nil)))
    case s0=>
     intro xs w' hb hT K hK
     clear hT
     simp only[zLd,zLe,putAll,zAp,zLa,zLb,zLc,Nat.reduceAdd,zNz] at hK⊢
     have hw:=Flow.hwP HW1.out hb
     go_simp
     exact hK _ _ (ZR _ _) rfl
    case s1=>
     intro xs w' hb hT K hK
     have h0:(xs 0)=.pointer (some ⟨ba,0,none⟩):=hT 0 (by kernel_rfl)
     clear hT
     simp only[zLd,zLe,putAll,zAp,zLa,zLb,zLc,Nat.reduceAdd,zNz] at hK⊢
     have hw:=Flow.hwP HW1.out hb
     have kb:=(hw.block ba (ZL HBba.out)).trans HBba.out
     have y0:=ZI kb 0
     have y1:=ZI kb 1
     clear kb
     simp at y0 y1
     (try simp only[h0] at hK)
     go_simp
     exact hK _ _ (ZR _ _) rfl
    case s2=>
     intro xs w' hb hT K hK
     have h1:(xs 1)=.agg #[.bool na1,ma1]:=hT 1 (by kernel_rfl)
     clear hT
     simp only[zLd,zLe,putAll,zAp,zLa,zLb,zLc,Nat.reduceAdd,zNz] at hK⊢
     have hw:=Flow.hwP HW1.out hb
     (try simp only[h1] at hK)
     go_simp
     go_at_call 79
     refine (Text_any (HNa.out.below hw) hkm (HG.out.below hw)).mono ?_
     rintro e w3 ⟨rfl,hb3⟩
     exact hK _ _ hb3 rfl
    case s3=>
     intro xs w' hb hT K hK
     have h2:(xs 2)=.string ⟨(Lib.itoa r.num).toArray⟩:=hT 2 (by kernel_rfl)
     clear hT
     simp only[zLd,zLe,putAll,zAp,zLa,zLb,zLc,Nat.reduceAdd,zNz] at hK⊢
     have hw:=Flow.hwP HW1.out hb
     (try simp only[h2] at hK)
     go_simp
     exact hK _ _ (ZR _ _) rfl
   case fin=>
    intro xs w' hb hT
    have hw:=Flow.hwP HW1.out hb
    have h3:(xs 3)=.string ⟨(Lib.itoa r.num).toArray⟩:=hT 3 (by omega)
    clear hT
    simp only[zLd,zLe,putAll,zAp,zLa,zLb,zLc,Nat.reduceAdd,zNz,List.drop_succ_cons,List.drop_zero]
    simp only[h3]
    clear h3 hb
    refine wpList_nil ?_
    go_wp2_with fail
    go_ret
    exact ⟨by rw[HE.out]; rfl,HAL.out.trans (hw.mono HAL.out.size)⟩
  ·have hc':isInt r=false:=by simpa using hc
   rw[hc'] at h1
   simp only[h1]
   clear h1
   refine wpList_nil ?_
   obtain ⟨w1,e1⟩:∃w1,w1=w':=⟨_,rfl⟩
   rw[←e1] at hw⊢
   have HW1:=ZH hw
   clear hb hw e1
   have HE:=ZH (show numText r=Lib.itoa r.num++(47::Lib.decDigits r.den) by unfold numText; rw[if_neg hc])
   have HQ:=ZH (show IntIn wa (.agg #[.bool na2,ma2]) r.den k by
    have h1:=HDa.out.1
    have h2:qa≠0:=by
     intro h
     unfold den at h1
     rw[if_pos h] at h1
     unfold isInt at hc'
     rw[ZQ] at hc'
     omega
    unfold den at h1
    rw[if_neg h2] at h1
    rw[←h1]
    exact HDa.out.2)
   clear hc hc'
   obtain ⟨SA,hSA⟩:∃S:ByteArray,S=⟨(Lib.itoa r.num).toArray⟩:=⟨_,rfl⟩
   obtain ⟨SB,hSB⟩:∃S:ByteArray,S=⟨(Lib.itoa (r.den:Int)).toArray⟩:=⟨_,rfl⟩
   have hsa:SA.size≤9000001:=by rw[hSA]; exact itoa_len HNa.out hkm
   have hsb:SB.size≤9000001:=by rw[hSB]; exact itoa_len HQ.out hkm
   have HSA:=ZH hSA
   have HSB:=ZH hSB
   have hz1:¬9223372036854775807<SA.size+1:=by omega
   have hz2:¬9223372036854775807<SA.size+1+SB.size:=by omega
   have hz3:¬9223372036854775807<(SA++(⟨#[47]⟩:ByteArray)).size+SB.size:=by rw[ByteArray.size_append]; exact hz2
   clear hSA hSB
   go_upto_region 3 with fail
   refine wp_region_flow [0,1,2,3,4,5,6,7,8] 9 (fun i v w'=>match i with
    | 0=>v=.pointer (some ⟨ba,0,none⟩)
    | 1=>v=.agg #[.bool na1,ma1]
    | 2=>v=.string SA
    | 3=>v=.string (SA++⟨#[47]⟩)
    | 4=>v=.pointer (some ⟨ba,2,none⟩)
    | 5=>v=.agg #[.bool na2,ma2]
    | 6=>v=.string SB
    | 7=>v=.string (SA++⟨#[47]⟩++SB)
    | _=>v=.string (SA++⟨#[47]⟩++SB)) rfl rfl (by kernel_rfl) (by kernel_rfl) ?st ?steps ?fin
   case st=>
    intro i v w1 w2 h hb
    match i with
    | 0 | 1 | 2 | 3 | 4 | 5 | 6 | 7 | _+8=>exact h
   case steps=>
    refine Steps.cons (Step.of rfl ?s0) (Steps.cons (Step.of rfl ?s1) (Steps.cons (Step.of rfl ?s2) (Steps.cons (Step.of rfl ?s3) (Steps.cons (Step.of rfl ?s4) (Steps.cons (Step.of rfl ?s5) (Steps.cons (Step.of rfl ?s6) (Steps.cons (Step.of rfl ?s7) (Steps.cons (Step.of rfl ?s8) Steps.nil))))))))
    case s0 | s4=>
     intro xs w' hb hT K hK
     clear hT
     simp only[zLd,zLe,putAll,zAp,zLa,zLb,zLc,Nat.reduceAdd,zNz] at hK⊢
     have hw:=Flow.hwD HW1.out hb
     go_simp
     exact hK _ _ (ZR _ _) rfl
    case s1=>
     intro xs w' hb hT K hK
     have h0:(xs 0)=.pointer (some ⟨ba,0,none⟩):=hT 0 (by kernel_rfl)
     clear hT
     simp only[zLd,zLe,putAll,zAp,zLa,zLb,zLc,Nat.reduceAdd,zNz] at hK⊢
     have hw:=Flow.hwD HW1.out hb
     have kb:=(hw.block ba (ZL HBba.out)).trans HBba.out
     have y0:=ZI kb 0
     have y1:=ZI kb 1
     clear kb
     simp at y0 y1
     (try simp only[h0] at hK)
     go_simp
     exact hK _ _ (ZR _ _) rfl
    case s2=>
     intro xs w' hb hT K hK
     have h1:(xs 1)=.agg #[.bool na1,ma1]:=hT 1 (by kernel_rfl)
     clear hT
     simp only[zLd,zLe,putAll,zAp,zLa,zLb,zLc,Nat.reduceAdd,zNz] at hK⊢
     have hw:=Flow.hwD HW1.out hb
     (try simp only[h1] at hK)
     go_simp
     go_at_call 79
     refine (Text_any (HNa.out.below hw) hkm (HG.out.below hw)).mono ?_
     rintro e w3 ⟨rfl,hb3⟩
     exact hK _ _ hb3 (by rw[HSA.out])
    case s3=>
     intro xs w' hb hT K hK
     have h2:(xs 2)=.string SA:=hT 2 (by kernel_rfl)
     clear hT
     simp only[zLd,zLe,putAll,zAp,zLa,zLb,zLc,Nat.reduceAdd,zNz] at hK⊢
     have hw:=Flow.hwD HW1.out hb
     (try simp only[h2] at hK)
     go_simp
     exact hK _ _ (ZR _ _) rfl
    case s5=>
     intro xs w' hb hT K hK
     have h4:(xs 4)=.pointer (some ⟨ba,2,none⟩):=hT 4 (by kernel_rfl)
     clear hT
     simp only[zLd,zLe,putAll,zAp,zLa,zLb,zLc,Nat.reduceAdd,zNz] at hK⊢
     have hw:=Flow.hwD HW1.out hb
     have kb:=(hw.block ba (ZL HBba.out)).trans HBba.out
     have y0:=ZI kb 2
     have y1:=ZI kb 3
     clear kb
     simp at y0 y1
     (try simp only[h4] at hK)
     go_simp
     exact hK _ _ (ZR _ _) rfl
    case s6=>
     intro xs w' hb hT K hK
     have h5:(xs 5)=.agg #[.bool na2,ma2]:=hT 5 (by kernel_rfl)
     clear hT
     simp only[zLd,zLe,putAll,zAp,zLa,zLb,zLc,Nat.reduceAdd,zNz] at hK⊢
     have hw:=Flow.hwD HW1.out hb
     (try simp only[h5] at hK)
     go_simp
     go_at_call 79
     refine (Text_any (HQ.out.below hw) hkm (HG.out.below hw)).mono ?_
     rintro e w3 ⟨rfl,hb3⟩
     exact hK _ _ hb3 (by rw[HSB.out])
    case s7=>
     intro xs w' hb hT K hK
     have h3:(xs 3)=.string (SA++⟨#[47]⟩):=hT 3 (by kernel_rfl)
     have h6:(xs 6)=.string SB:=hT 6 (by kernel_rfl)
     clear hT
     simp only[zLd,zLe,putAll,zAp,zLa,zLb,zLc,Nat.reduceAdd,zNz] at hK⊢
     have hw:=Flow.hwD HW1.out hb
     (try simp only[h3] at hK)
     (try simp only[h6] at hK)
     go_simp
     exact hK _ _ (ZR _ _) rfl
    case s8=>
     intro xs w' hb hT K hK
     have h7:(xs 7)=.string (SA++⟨#[47]⟩++SB):=hT 7 (by kernel_rfl)
     clear hT
     simp only[zLd,zLe,putAll,zAp,zLa,zLb,zLc,Nat.reduceAdd,zNz] at hK⊢
     have hw:=Flow.hwD HW1.out hb
     (try simp only[h7] at hK)
     go_simp
     exact hK _ _ (ZR _ _) rfl
   case fin=>
    intro xs w' hb hT
    have hw:=Flow.hwD HW1.out hb
    have h8:(xs 8)=.string (SA++⟨#[47]⟩++SB):=hT 8 (by omega)
    clear hT
    simp only[zLd,zLe,putAll,zAp,zLa,zLb,zLc,Nat.reduceAdd,zNz]
    simp only[h8]
    clear h8 hb
    refine wpAny_done (by kernel_rfl) ?_ _
    go_wp2_with fail
    go_ret
    refine ⟨?_,HAL.out.trans (hw.mono HAL.out.size)⟩
    rw[HE.out]
    show Ending.returned (.string (SA++⟨#[47]⟩++SB))=_
    rw[HSA.out,HSB.out,itoa_nat,cat3]
end Go.Proofs.YtdcaaehapdhckaaGreatDoor
set_option maxRecDepth 100000
namespace Go.Proofs.YtdcaaehapdhckaaGreatDoor
open Go.RowKit Go.Num
set_option maxHeartbeats 2000000

theorem decode_small (s:ByteArray) {i:Nat} (hi:i<s.size) (h:s[i].toNat<128):Utf8.decode s i=(s[i].toNat,1):=by
 have e:s.get! i=s[i]:=by
  have h1:s.get! i=s.data[i]!:=rfl
  rw[h1]
  exact getElem!_pos s.data i hi
 unfold Utf8.decode
 simp only[Nat.add_zero,e]
 rw[if_pos h]
theorem decode_big (s:ByteArray) {i:Nat} (hi:i<s.size) (h:¬s[i].toNat<128):128≤(Utf8.decode s i).1:=by
 have e:s.get! i=s[i]:=by
  have h1:s.get! i=s.data[i]!:=rfl
  rw[h1]
  exact getElem!_pos s.data i hi
 unfold Utf8.decode
 simp only[Nat.add_zero,e]
 rw[if_neg h]
 split
 ·split
  ·assumption
  ·decide
 split
 ·split
  ·rename_i h2
   simp at h2⊢
   omega
  ·decide
 split
 ·split
  ·rename_i h2
   simp at h2⊢
   omega
  ·decide
 decide
theorem idx_bad {p:Nat→Bool} (hp128:∀r,128≤r→p r=true) (s:ByteArray):∀(f pos:Nat),s.size-pos≤f→(0≤Lib.idxFuncFrom p true s f pos↔∃k,∃hk:k<s.size,pos≤k∧p s[k].toNat=true)
 | 0,pos,h=>by
  simp only[Lib.idxFuncFrom]
  constructor
  ·intro h; omega
  ·rintro ⟨k,hk,hp,_⟩
   omega
 | f+1,pos,h=>by
  unfold Lib.idxFuncFrom
  by_cases hp:pos<s.size
  ·rw[if_pos hp]
   by_cases hb:p s[pos].toNat=true
   ·have hq:p (Utf8.decode s pos).1=true:=by
     by_cases hs:s[pos].toNat<128
     ·rw[decode_small s hp hs]; exact hb
     ·exact hp128 _ (decode_big s hp hs)
    rw[if_pos hq]
    exact ⟨fun _=>⟨pos,hp,Nat.le_refl _,hb⟩,fun _=>by omega⟩
   ·have hs:s[pos].toNat<128:=by
     by_cases hs:s[pos].toNat<128
     ·exact hs
     ·exact absurd (hp128 _ (by omega)) hb
    have hd:=decode_small s hp hs
    have hq:p (Utf8.decode s pos).1≠true:=by rw[hd]; exact hb
    rw[if_neg hq,hd,idx_bad hp128 s f (pos+1) (by omega)]
    constructor
    ·rintro ⟨k,hk,h1,h2⟩
     exact ⟨k,hk,by omega,h2⟩
    ·rintro ⟨k,hk,h1,h2⟩
     refine ⟨k,hk,?_,h2⟩
     rcases Nat.lt_or_ge pos k with h | h
     ·exact h
     ·have:k=pos:=by omega
      subst this
      exact absurd h2 hb
  ·rw[if_neg hp]
   constructor
   ·intro h; omega
   ·rintro ⟨k,hk,h1,_⟩
    omega
theorem idx_any {p:Nat→Bool} (hp128:∀r,128≤r→p r=true) (s:ByteArray):decide (0≤Lib.idxFunc p true s)=s.data.toList.any fun b=>p b.toNat:=by
 have h:=idx_bad hp128 s s.size 0 (by omega)
 rw[Bool.eq_iff_iff,decide_eq_true_iff,List.any_eq_true]
 unfold Lib.idxFunc
 rw[h]
 constructor
 ·rintro ⟨k,hk,_,hb⟩
  exact ⟨s[k],List.getElem_mem (l:=s.data.toList) hk,hb⟩
 ·rintro ⟨x,hx,hb⟩
  obtain ⟨k,hk,rfl⟩:=List.getElem_of_mem hx
  exact ⟨k,hk,Nat.zero_le _,hb⟩
def unsign (l:List UInt8):List UInt8:=if l.head?=some 45 then l.tail else l
def hasMinus (l:List UInt8):Bool:=decide (l.head?=some 45)
set_option maxHeartbeats 8000000
theorem prefix_minus (l:List UInt8):Lib.hasPrefix l [45]=hasMinus l:=by
 cases l with
 | nil=>rfl
 | cons b r=>
  unfold Lib.hasPrefix hasMinus
  simp only[List.isPrefixOf,Bool.and_true,List.head?_cons,Option.some.injEq]
  rw[Bool.eq_iff_iff,beq_iff_eq,decide_eq_true_iff]
  exact ⟨fun h=>h.symm,fun h=>h.symm⟩
theorem extract_drop (s:ByteArray) (k:Nat):s.extract k s.size=⟨(s.data.toList.drop k).toArray⟩:=by
 apply ByteArray.ext
 rw[ByteArray.data_extract]
 apply Array.ext'
 simp
 exact List.take_of_length_le (by rw[List.length_drop]; exact Nat.le_refl _)
theorem extract_take (s:ByteArray) (k:Nat):s.extract 0 k=⟨(s.data.toList.take k).toArray⟩:=by
 apply ByteArray.ext
 rw[ByteArray.data_extract]
 apply Array.ext'
 simp
theorem lCutPrefix_minus (s:ByteArray) (hs:s.size≤1099511627776) (w:World):Calls Tryz.prog 197 #[.string s,.string ⟨#[45]⟩] w fun e w'=>e=.returned (.tuple #[.string ⟨(unsign s.data.toList).toArray⟩,.bool (hasMinus s.data.toList)])∧w'=w:=by
 have hp:=Tryz.stringslite_HasPrefix s ⟨#[45]⟩ w
 rw[show (⟨#[45]⟩:ByteArray).data.toList = [45] from rfl,prefix_minus] at hp
 cases hm:hasMinus s.data.toList with
 | false=>
  have hu:(⟨(unsign s.data.toList).toArray⟩:ByteArray)=s:=by
   have:unsign s.data.toList=s.data.toList:=by
    unfold unsign
    unfold hasMinus at hm
    rw[if_neg (by simpa using hm)]
   rw[this]
  rw[hm] at hp
  have HP:=ZH hp
  have HU:=ZH hu
  clear hp hu hm
  go_enter Tryz.func197,Tryz.ntmps197
  go_wp2_with fail
  refine HP.out.mono ?_
  rintro e w1 ⟨rfl,rfl⟩
  go_wp2_with fail
  go_ret2
  exact ⟨by rw[HU.out]; rfl,rfl⟩
 | true=>
  have hz:1≤s.size:=by
   unfold hasMinus at hm
   have h1:s.data.toList.length=s.size:=rfl
   cases h:s.data.toList with
   | nil=>rw[h] at hm; simp at hm
   | cons b r=>rw[h] at h1; simp at h1; omega
  rw[hm] at hp
  have HP:=ZH hp
  have HU:=ZH hm
  clear hp hm
  go_enter Tryz.func197,Tryz.ntmps197
  go_wp2_with fail
  refine HP.out.mono ?_
  rintro e w1 ⟨rfl,rfl⟩
  go_wp2_with fail
  go_ret2
  refine ⟨?_,rfl⟩
  show Ending.returned (.tuple #[.string (s.extract 1 s.size),.bool true])=_
  rw[extract_drop]
  have h1:=HU.out
  unfold hasMinus at h1
  unfold unsign
  rw[if_pos (by simpa using h1),List.drop_one]
theorem CutPrefix_minus (s:ByteArray) (hs:s.size≤1099511627776) (w:World):Calls Tryz.prog 171 #[.string s,.string ⟨#[45]⟩] w fun e w'=>e=.returned (.tuple #[.string ⟨(unsign s.data.toList).toArray⟩,.bool (hasMinus s.data.toList)])∧w'=w:=by
 have HC:=ZH (lCutPrefix_minus s hs w)
 go_enter Tryz.func171,Tryz.ntmps171
 go_wp2_with fail
 refine HC.out.mono ?_
 rintro e w1 ⟨rfl,rfl⟩
 go_wp2_with fail
 go_ret2
 exact ⟨rfl,rfl⟩
def badD (r:Nat):Bool:=decide (r<48) || decide (57<r)
theorem parseF_any (W:World) (r:Nat):Calls Tryz.prog 172 #[.int .i32 (r:Int)] W fun e w'=>e=.returned (.bool (badD r))∧∃q,w'=W.drewN q:=by
 by_cases h1:r<48
 ·have e1:((r:Int)<48)=True:=eq_true (by omega)
  have hb:badD r=true:=by simp[badD,h1]
  have HB:=ZH hb
  clear hb h1
  go_enter Tryz.func172,Tryz.ntmps172
  go_wp2_with fail
  go_ret
  exact ⟨by rw[HB.out]; rfl,0,rfl⟩
 ·have e1:((r:Int)<48)=False:=eq_false (by omega)
  by_cases h2:57<r
  ·have e2:((57:Int)<(r:Int))=True:=eq_true (by omega)
   have hb:badD r=true:=by simp[badD,h2]
   have HB:=ZH hb
   clear hb h1
   go_enter Tryz.func172,Tryz.ntmps172
   go_wp2_with fail
   go_ret
   exact ⟨by rw[HB.out]; rfl,0,rfl⟩
  ·have e2:((57:Int)<(r:Int))=False:=eq_false (by omega)
   have hb:badD r=false:=by simp[badD]; omega
   have HB:=ZH hb
   clear hb h1 h2
   go_enter Tryz.func172,Tryz.ntmps172
   go_wp2_with fail
   go_ret
   exact ⟨by rw[HB.out]; rfl,0,rfl⟩
theorem enters_ParseF (args:Array Value) (w:World):(callFunc 172 args).run Tryz.prog w=.ok (.enter 172 args) w:=by
 exact enters_of Tryz.func172 (by kernel_rfl) rfl args w
theorem badD_byte (b:UInt8):badD b.toNat = !isDig b:=by
 unfold badD isDig
 rw[Bool.eq_iff_iff]
 simp
theorem containsD (s:ByteArray) (w:World):Calls Tryz.prog 138 #[.string s,.func (.func 172) #[] #[]] w fun e w'=>e=.returned (.bool (!s.data.toList.all isDig))∧Below w.heap.size w w':=by
 have h:=Tryz.strings_ContainsFunc 172 #[] enters_ParseF badD s w (fun W r _=>parseF_any W r)
 rw[idx_any (fun r hr=>by simp[badD]; omega)] at h
 have e:(s.data.toList.any fun b=>badD b.toNat) = !s.data.toList.all isDig:=by
  simp only[badD_byte]
  rw[List.not_all_eq_any_not]
 rw[e] at h
 exact h
def parseErr (l:List UInt8):Int:=
 if 65536<l.length then 5
 else if unsign l = []∨(unsign l).all isDig=false then 14
 else if (unsign l).head?=some 48∧(1<(unsign l).length∨hasMinus l=true) then 3 else 0
def parseVal (l:List UInt8):Int:=if hasMinus l=true then -(dval 0 (unsign l):Int) else (dval 0 (unsign l):Int)
def strLen : Value→Nat
 | .string s=>s.size
 | _=>0
def ParsePost (w:World) (l:List UInt8) (e:Ending) (w':World):Prop:=∃v,e=.returned (.tuple #[v,.int .i64 (parseErr l)])∧(parseErr l=0→IntIn w' v (parseVal l) (l.length+1))∧(parseErr l≠0→v=.agg #[.bool false,.slice none 0 0])∧Below w.heap.size w w'
theorem size_list (s:ByteArray):s.data.toList.length=s.size:=rfl
theorem Parse_any (s:ByteArray) (hs:s.size≤1099511627776) (w:World):Calls Tryz.prog 129 #[.string s] w (ParsePost w s.data.toList):=by
 obtain ⟨wa,hwa⟩:∃wa,wa=w.alloc (.cells #[.bool false,.slice none 0 0] 45):=⟨_,rfl⟩
 obtain ⟨bc,hbc⟩:∃b,b=w.heap.size:=⟨_,rfl⟩
 have hal:Below w.heap.size w wa:=by rw[hwa]; exact (ZR _ w).alloc (Nat.le_refl _) _
 have hblk:wa.heap[bc]?=some (.cells #[.bool false,.slice none 0 0] 45 (0,0)):=by rw[hwa,hbc]; exact ZW w _
 have hge:w.heap.size≤bc:=by omega
 have z0:=ZI hblk 0
 have z1:=ZI hblk 1
 have f0:=ZF hblk 0
 have f1:=ZF hblk 1
 simp at z0 z1
 have HAL:=ZH (ZN hal (ZN hge hblk))
 have HW:=ZH (ZN hwa hbc)
 have hsl:=size_list s
 clear hal hblk hwa hbc hge
 by_cases hlong:65536<s.size
 ·have e1:((65536:Int)<(s.size:Int))=True:=eq_true (by omega)
  have HE:=ZH (show parseErr s.data.toList=5 by unfold parseErr; rw[if_pos (by rw[hsl]; exact hlong)])
  clear hsl hlong
  go_enter Tryz.func129,Tryz.ntmps129
  go_upto_region 1 with fail
  rw[←HW.out.1,←HW.out.2]
  clear HW
  go_wp2_with fail
  refine bodyPost_ret (v:=.tuple #[.agg #[.bool false,.slice none 0 0],.int .i64 5]) (by simp[results,Tryz.results129,go_sem,z0,z1]) rfl ⟨_,by rw[HE.out],fun h=>?_,fun _=>rfl,?_⟩
  ·rw[HE.out] at h
   cases h
  ·exact (HAL.out.1.setCell HAL.out.2.1 _).setCell HAL.out.2.1 _
 ·have e1:((65536:Int)<(s.size:Int))=False:=eq_false (by omega)
  have hcut:=CutPrefix_minus s hs wa
  obtain ⟨DS,hDS⟩:∃D:ByteArray,D=⟨(unsign s.data.toList).toArray⟩:=⟨_,rfl⟩
  rw[←hDS] at hcut
  have hdl:DS.data.toList=unsign s.data.toList:=by rw[hDS]
  have hdz:DS.size≤65536:=by
   have h1:DS.data.toList.length=DS.size:=rfl
   have h2:(unsign s.data.toList).length≤s.data.toList.length:=by
    unfold unsign
    split
    ·rw[List.length_tail]; omega
    ·exact Nat.le_refl _
   rw[←hdl] at h2
   omega
  obtain ⟨neg,hneg⟩:∃b,b=hasMinus s.data.toList:=⟨_,rfl⟩
  rw[←hneg] at hcut
  have HCUT:=ZH hcut
  have HD:=ZH (ZN hdl hneg)
  have HLE:=ZH (show ¬65536<s.data.toList.length by rw[hsl]; exact hlong)
  have hcon:=containsD DS wa
  clear hcut hDS hsl hlong hneg
  by_cases h0:DS.size=0
  ·have h1:unsign s.data.toList = []:=by rw[←hdl]; exact List.length_eq_zero_iff.1 h0
   have hE1:DS.toList = []:=by rw[ByteArray.toList_eq,hdl,h1]
   have HE:=ZH (show parseErr s.data.toList=14 by unfold parseErr; rw[if_neg HLE.out,if_pos (.inl h1)])
   clear h1 hdl h0 hcon
   go_enter Tryz.func129,Tryz.ntmps129
   go_upto_region 1 with fail
   rw[←HW.out.1,←HW.out.2]
   clear HW
   go_wp2_with fail
   refine HCUT.out.mono ?_
   rintro e w1 ⟨rfl,rfl⟩
   go_wp2_with fail
   refine bodyPost_ret (v:=.tuple #[.agg #[.bool false,.slice none 0 0],.int .i64 14]) (by simp[results,Tryz.results129,go_sem,z0,z1]) rfl ⟨_,by rw[HE.out],fun h=>?_,fun _=>rfl,?_⟩
   ·rw[HE.out] at h
    cases h
   ·exact (HAL.out.1.setCell HAL.out.2.1 _).setCell HAL.out.2.1 _
  ·have h1:unsign s.data.toList≠[]:=by rw[←hdl]; intro h; exact h0 (by have:=congrArg List.length h; exact this)
   have hE1:DS.toList≠[]:=by rw[ByteArray.toList_eq,hdl]; exact h1
   have hE2:DS.toList.isEmpty=false:=by simpa using hE1
   have hE3:(DS.toList = [])=False:=eq_false hE1
   cases hall:(unsign s.data.toList).all isDig with
   | false=>
    have HE:=ZH (show parseErr s.data.toList=14 by unfold parseErr; rw[if_neg HLE.out,if_pos (.inr hall)])
    rw[hdl,hall] at hcon
    have HCON:=ZH hcon
    clear h1 hdl h0 hcon hall
    go_enter Tryz.func129,Tryz.ntmps129
    go_upto_region 1 with fail
    rw[←HW.out.1,←HW.out.2]
    clear HW
    go_wp2_with fail
    refine HCUT.out.mono ?_
    rintro e w1 ⟨rfl,rfl⟩
    go_wp2_with fail
    refine HCON.out.mono ?_
    rintro e w2 ⟨rfl,hb2⟩
    have z0:=ZJ hb2 z0
    have z1:=ZJ hb2 z1
    have f0:=frozen_below hb2 (p:=⟨bc,0,none⟩) (ZL HAL.out.2.2) f0
    have f1:=frozen_below hb2 (p:=⟨bc,1,none⟩) (ZL HAL.out.2.2) f1
    have H2:=ZH hb2
    clear hb2
    go_wp2_with fail
    refine bodyPost_ret (v:=.tuple #[.agg #[.bool false,.slice none 0 0],.int .i64 14]) (by simp[results,Tryz.results129,go_sem,z0,z1]) rfl ⟨_,by rw[HE.out],fun h=>?_,fun _=>rfl,?_⟩
    ·rw[HE.out] at h
     cases h
    ·exact ((HAL.out.1.trans (H2.out.mono HAL.out.1.size)).setCell HAL.out.2.1 _).setCell HAL.out.2.1 _
   | true=>
    rw[hdl,hall] at hcon
    have HCON:=ZH hcon
    have hd0:0<DS.size:=Nat.pos_of_ne_zero h0
    have HALL:=ZH (ZN hall h1)
    have HDL:=ZH hdl
    clear h1 hdl h0 hcon hall
    go_enter Tryz.func129,Tryz.ntmps129
    go_upto_region 1 with fail
    rw[←HW.out.1,←HW.out.2]
    clear HW
    go_wp2_with fail
    refine HCUT.out.mono ?_
    rintro e w1 ⟨rfl,rfl⟩
    go_wp2_with fail
    refine HCON.out.mono ?_
    rintro e w2 ⟨rfl,hb2⟩
    have z0:=ZJ hb2 z0
    have z1:=ZJ hb2 z1
    have f0:=frozen_below hb2 (p:=⟨bc,0,none⟩) (ZL HAL.out.2.2) f0
    have f1:=frozen_below hb2 (p:=⟨bc,1,none⟩) (ZL HAL.out.2.2) f1
    have H2:=ZH hb2
    clear hb2
    go_upto_region 6 with fail
    by_cases h6:DS[0].toNat=48∧(1<DS.size∨neg=true)
    ·have HE:=ZH (show parseErr s.data.toList=3 by
      unfold parseErr
      rw[if_neg HLE.out,if_neg (by rw[HALL.out.1]; intro h; exact h.elim HALL.out.2 (fun h=>absurd h (by simp))),if_pos ?_]
      refine ⟨?_,?_⟩
      ·rw[←HDL.out,List.head?_eq_getElem?,List.getElem?_eq_getElem (by rw[size_list]; exact hd0)]
       refine congrArg some (UInt8.toNat_inj.1 ?_)
       exact h6.1
      ·rw[←HDL.out,←HD.out.2,size_list]
       exact h6.2)
     have e6:((DS[0].toNat:Int)==48)=true:=by rw[h6.1]; rfl
     by_cases h7:1<DS.size
     ·have e7:((1:Int)<(DS.size:Int))=True:=eq_true (by omega)
      clear h6
      go_wp2_with fail
      refine bodyPost_ret (v:=.tuple #[.agg #[.bool false,.slice none 0 0],.int .i64 3]) (by simp[results,Tryz.results129,go_sem,z0,z1]) rfl ⟨_,by rw[HE.out],fun h=>?_,fun _=>rfl,?_⟩
      ·rw[HE.out] at h
       cases h
      ·exact ((HAL.out.1.trans (H2.out.mono HAL.out.1.size)).setCell HAL.out.2.1 _).setCell HAL.out.2.1 _
     ·have e7:((1:Int)<(DS.size:Int))=False:=eq_false (by omega)
      obtain rfl:neg=true:=h6.2.resolve_left h7
      clear h6
      go_wp2_with fail
      refine bodyPost_ret (v:=.tuple #[.agg #[.bool false,.slice none 0 0],.int .i64 3]) (by simp[results,Tryz.results129,go_sem,z0,z1]) rfl ⟨_,by rw[HE.out],fun h=>?_,fun _=>rfl,?_⟩
      ·rw[HE.out] at h
       cases h
      ·exact ((HAL.out.1.trans (H2.out.mono HAL.out.1.size)).setCell HAL.out.2.1 _).setCell HAL.out.2.1 _
    ·have HE:=ZH (show parseErr s.data.toList=0 by
      unfold parseErr
      rw[if_neg HLE.out,if_neg (by rw[HALL.out.1]; intro h; exact h.elim HALL.out.2 (fun h=>absurd h (by simp))),if_neg ?_]
      rintro ⟨ha,hb⟩
      rw[←HDL.out,List.head?_eq_getElem?,List.getElem?_eq_getElem (by rw[size_list]; exact hd0)] at ha
      rw[←HDL.out,←HD.out.2,size_list] at hb
      exact h6 ⟨by have:=Option.some.inj ha; exact congrArg UInt8.toNat this,hb⟩)
     have hor:DS[0].toNat≠48∨(DS[0].toNat=48∧¬1<DS.size∧neg=false):=by
      by_cases h:DS[0].toNat=48
      ·right
       refine ⟨h,fun h1=>h6 ⟨h,.inl h1⟩,?_⟩
       cases hn:neg with
       | false=>rfl
       | true=>exact absurd ⟨h,.inr hn⟩ h6
      ·exact .inl h
     clear h6
     rcases hor with h6 | ⟨h6,h7,rfl⟩
     ·have e6:((DS[0].toNat:Int)==48)=false:=by rw[ZQ]; omega
      go_upto_region 8 with fail
      go_wp2_with fail
      go_loopw [4,6] (fun dv mv wr=>∃(S:ByteArray) (pre:List UInt8) (l:List Nat) (ao:Option Addr) (c:Nat),dv=.string S∧mv=.slice ao l.length c∧S.size≤65536∧Hid (pre++S.data.toList=unsign s.data.toList∧MagIn wr (.slice ao l.length c) l∧Norm l∧val l=dval 0 pre∧l.length≤pre.length)∧Hid (Below w2.heap.size w2 wr)) (fun dv _ _=>strLen dv)
      case atStart=>exact ⟨DS,[],[],none,0,rfl,rfl,hdz,ZH ⟨HDL.out,mag_nil _,norm_nil,by rw[dval_nil]; simp[val],Nat.le_refl _⟩,ZH (ZR _ _)⟩
      case round=>
       obtain ⟨S,pre,l,ao,c,rfl,rfl,hS,hl,hbw⟩:=hrel
       by_cases h0:0<S.size
       ·have e8:((0:Int)<(S.size:Int))=True:=eq_true (by omega)
        obtain ⟨n,hn⟩:∃n,n=(S.size-1)%9+1:=⟨_,rfl⟩
        have hq:((S.size:Int)-1)%9+1=(n:Int):=by omega
        have hn1:1≤n:=by omega
        have hn2:n≤9:=by omega
        have hn3:n≤S.size:=by omega
        clear hn
        go_wp2_with fail
        clear hq e8
        go_loopw [8,48] (fun p i wq=>∃j:Nat,wq=wr∧i=.int .i64 j∧p=.int .u32 ((10^j:Nat):Int)∧j≤n) (fun _ i _=>n-(intOf i).toNat)
        case atStart=>exact ⟨0,rfl,rfl,rfl,Nat.zero_le _⟩
        case round=>
         obtain ⟨j,rfl,rfl,rfl,hj⟩:=hrel
         by_cases hlt:j<n
         ·have e9:((j:Int)<(n:Int))=True:=eq_true (by omega)
          obtain ⟨P,hP⟩:∃P,P=10^j:=⟨_,rfl⟩
          have hP9:P≤100000000:=by rw[hP]; exact Nat.pow_le_pow_right (by decide) (show j≤8 by omega)
          rw[←hP]
          have hP2:P*10=10^(j+1):=by rw[hP,Nat.pow_succ]
          have hm:((P:Int)*10)%4294967296=(P:Int)*10:=by omega
          clear hP
          go_wp2_with fail
          exact ⟨⟨j+1,trivial,by congr 1,by rw[←hP2]; congr 1,hlt⟩,by simp[intOf]; omega⟩
         ·have e9:((j:Int)<(n:Int))=False:=eq_false (by omega)
          obtain rfl:j=n:=by omega
          have hsz:=size_list S
          have hall:S.data.toList.all isDig=true:=by
           have h:=HALL.out.1
           rw[←hl.out.1,List.all_append,Bool.and_eq_true] at h
           exact h.2
          have htl:(S.data.toList.take j).length=j:=by rw[List.length_take]; omega
          have hta:(S.data.toList.take j).all isDig=true:=by
           have h:=hall
           rw[←List.take_append_drop j S.data.toList,List.all_append,Bool.and_eq_true] at h
           exact h.1
          have hpn:=parse_nine (by intro h; rw[h] at htl; simp at htl; omega) hta (by rw[htl]; exact hn2)
          have hpu:=Tryz.strconv_ParseUint_10_at32_ok (S.extract 0 j) (by rw[ByteArray.size_extract]; omega) (dval 0 (S.data.toList.take j)) (by rw[extract_take]; exact hpn) wr
          obtain ⟨p,hp⟩:∃p,p=dval 0 (S.data.toList.take j):=⟨_,rfl⟩
          obtain ⟨x,hx⟩:∃x,x=10^j:=⟨_,rfl⟩
          rw[←hp] at hpu
          have hx9:x≤1000000000:=by rw[hx]; exact Nat.pow_le_pow_right (by decide) hn2
          have hp9:p<1000000000:=by
           have h:=dval_lt _ 0 hta
           rw[←hp,htl,←hx] at h
           omega
          rw[←hx]
          have hsh:dval 0 (pre++S.data.toList.take j)=x*val l+p:=by rw[dval_append,dval_shift,←hp,htl,←hx,hl.out.2.2.2.1,Nat.mul_comm]
          have hdr:(S.extract j S.size).data.toList=S.data.toList.drop j:=by rw[extract_drop]
          have hdz2:(S.extract j S.size).size=S.size-j:=by rw[ByteArray.size_extract]; omega
          have hle:l.length≤65536:=by
           have h1:=congrArg List.length hl.out.1
           rw[←HDL.out,List.length_append,size_list DS] at h1
           have:=hl.out.2.2.2.2
           omega
          have HPU:=ZH hpu
          have HR:=ZH (ZN hsh (ZN hdr (ZN htl hle)))
          have hpm:(p:Int)%4294967296=(p:Int):=by omega
          clear hpu hsz hall htl hta hpn hx hp hsh hdr hle
          go_wp2_with fail
          refine HPU.out.mono ?_
          rintro e wp ⟨rfl,hwp⟩
          have hbp:Below wr.heap.size wr wp:=by
           rcases hwp with rfl | rfl
           ·exact ZR _ _
           ·exact Lib.bytesWorld_below _ _ _
          have HSC:=ZH (scale_any (x:=x) (p:=p) (hl.out.2.1.below hbp) (by have:=HR.out.2.2.2; omega) (by omega) (by omega))
          have HBP:=ZH hbp
          clear hwp hbp
          go_wp2_with fail
          refine HSC.out.mono ?_
          rintro e w4 ⟨v4,r,rfl,hm4,hn4,hv4,hl4,hb4⟩
          obtain ⟨a4,c4,rfl,hc4,-⟩:=id hm4
          have H4:=ZH (ZN hm4 (ZN hn4 (ZN hv4 (ZN hl4 hb4))))
          clear hm4 hn4 hv4 hl4 hb4
          go_wp2_with fail
          refine ⟨⟨_,pre++S.data.toList.take j,r,a4,c4,rfl,rfl,by rw[hdz2]; omega,ZH ⟨?_,H4.out.1,H4.out.2.1,?_,?_⟩,ZH ?_⟩,?_⟩
          ·rw[HR.out.2.1,List.append_assoc,List.take_append_drop]
           exact hl.out.1
          ·rw[H4.out.2.2.1,HR.out.1]
          ·rw[List.length_append,HR.out.2.2.1]
           have:=H4.out.2.2.2.1
           have:=hl.out.2.2.2.2
           omega
          ·exact hbw.out.trans ((HBP.out.mono hbw.out.size).trans (H4.out.2.2.2.2.mono (Nat.le_trans hbw.out.size HBP.out.size)))
          ·show (S.extract j S.size).size<S.size
           rw[hdz2]
           omega
       ·have e8:((0:Int)<(S.size:Int))=False:=eq_false (by omega)
        have HS:=ZH (signed_any neg hl.out.2.1)
        go_wp2_with fail
        refine HS.out.mono ?_
        rintro e w3 ⟨v,rfl,hv,hb3⟩
        obtain ⟨s4,a4,c4,l4,rfl,-⟩:=int_sign hv
        have hlt2:bc<w2.heap.size:=Nat.lt_of_lt_of_le (ZL HAL.out.2.2) H2.out.size
        have hb23:Below w2.heap.size w2 w3:=hbw.out.trans (hb3.mono hbw.out.size)
        have z0:=ZJ hb23 z0
        have z1:=ZJ hb23 z1
        have f0:=frozen_below hb23 (p:=⟨bc,0,none⟩) hlt2 f0
        have f1:=frozen_below hb23 (p:=⟨bc,1,none⟩) hlt2 f1
        have hblk:=(hb23.block bc hlt2).trans ((H2.out.block bc (ZL HAL.out.2.2)).trans HAL.out.2.2)
        have hnil:S.data.toList = []:=List.length_eq_zero_iff.1 (by rw[size_list]; omega)
        have hpre:pre=unsign s.data.toList:=by
         have h:=hl.out.1
         rwa[hnil,List.append_nil] at h
        have hle:pre.length≤s.data.toList.length:=by
         rw[hpre]
         unfold unsign
         split
         ·rw[List.length_tail]; omega
         ·exact Nat.le_refl _
        have hi:=(hv.store hblk (.bool s4) (.slice a4 l4.length c4)).more (show l.length≤s.data.toList.length+1 by have:=hl.out.2.2.2.2; omega)
        have hpv:parseVal s.data.toList=int neg l:=by
         unfold parseVal int
         rw[hl.out.2.2.2.1,hpre,←HD.out.2]
         try rfl
        rw[←hpv] at hi
        have hbf:Below w.heap.size w ((w3.setCell ⟨bc,0,none⟩ (.bool s4)).setCell ⟨bc,1,none⟩ (.slice a4 l4.length c4)):=((HAL.out.1.trans ((H2.out.mono HAL.out.1.size).trans (hb23.mono (Nat.le_trans HAL.out.1.size H2.out.size)))).setCell HAL.out.2.1 _).setCell HAL.out.2.1 _
        have HF:=ZH (ZN hi hbf)
        clear hblk hi hbf hb23 hb3 hv hnil hpre hle hpv
        go_wp2_with fail
        exact bodyPost_ret (v:=.tuple #[.agg #[.bool s4,.slice a4 l4.length c4],.int .i64 0]) (by simp[results,Tryz.results129,go_sem,z0,z1]) rfl ⟨_,by rw[HE.out],fun _=>HF.out.1,fun h=>absurd HE.out h,HF.out.2⟩
     ·have e6:((DS[0].toNat:Int)==48)=true:=by rw[h6]; rfl
      have e7:((1:Int)<(DS.size:Int))=False:=eq_false (by omega)
      go_upto_region 8 with fail
      go_wp2_with fail
      go_loopw [4,6] (fun dv mv wr=>∃(S:ByteArray) (pre:List UInt8) (l:List Nat) (ao:Option Addr) (c:Nat),dv=.string S∧mv=.slice ao l.length c∧S.size≤65536∧Hid (pre++S.data.toList=unsign s.data.toList∧MagIn wr (.slice ao l.length c) l∧Norm l∧val l=dval 0 pre∧l.length≤pre.length)∧Hid (Below w2.heap.size w2 wr)) (fun dv _ _=>strLen dv)
      case atStart=>exact ⟨DS,[],[],none,0,rfl,rfl,hdz,ZH ⟨HDL.out,mag_nil _,norm_nil,by rw[dval_nil]; simp[val],Nat.le_refl _⟩,ZH (ZR _ _)⟩
      case round=>
       obtain ⟨S,pre,l,ao,c,rfl,rfl,hS,hl,hbw⟩:=hrel
       by_cases h0:0<S.size
       ·have e8:((0:Int)<(S.size:Int))=True:=eq_true (by omega)
        obtain ⟨n,hn⟩:∃n,n=(S.size-1)%9+1:=⟨_,rfl⟩
        have hq:((S.size:Int)-1)%9+1=(n:Int):=by omega
        have hn1:1≤n:=by omega
        have hn2:n≤9:=by omega
        have hn3:n≤S.size:=by omega
        clear hn
        go_wp2_with fail
        clear hq e8
        go_loopw [8,48] (fun p i wq=>∃j:Nat,wq=wr∧i=.int .i64 j∧p=.int .u32 ((10^j:Nat):Int)∧j≤n) (fun _ i _=>n-(intOf i).toNat)
        case atStart=>exact ⟨0,rfl,rfl,rfl,Nat.zero_le _⟩
        case round=>
         obtain ⟨j,rfl,rfl,rfl,hj⟩:=hrel
         by_cases hlt:j<n
         ·have e9:((j:Int)<(n:Int))=True:=eq_true (by omega)
          obtain ⟨P,hP⟩:∃P,P=10^j:=⟨_,rfl⟩
          have hP9:P≤100000000:=by rw[hP]; exact Nat.pow_le_pow_right (by decide) (show j≤8 by omega)
          rw[←hP]
          have hP2:P*10=10^(j+1):=by rw[hP,Nat.pow_succ]
          have hm:((P:Int)*10)%4294967296=(P:Int)*10:=by omega
          clear hP
          go_wp2_with fail
          exact ⟨⟨j+1,trivial,by congr 1,by rw[←hP2]; congr 1,hlt⟩,by simp[intOf]; omega⟩
         ·have e9:((j:Int)<(n:Int))=False:=eq_false (by omega)
          obtain rfl:j=n:=by omega
          have hsz:=size_list S
          have hall:S.data.toList.all isDig=true:=by
           have h:=HALL.out.1
           rw[←hl.out.1,List.all_append,Bool.and_eq_true] at h
           exact h.2
          have htl:(S.data.toList.take j).length=j:=by rw[List.length_take]; omega
          have hta:(S.data.toList.take j).all isDig=true:=by
           have h:=hall
           rw[←List.take_append_drop j S.data.toList,List.all_append,Bool.and_eq_true] at h
           exact h.1
          have hpn:=parse_nine (by intro h; rw[h] at htl; simp at htl; omega) hta (by rw[htl]; exact hn2)
          have hpu:=Tryz.strconv_ParseUint_10_at32_ok (S.extract 0 j) (by rw[ByteArray.size_extract]; omega) (dval 0 (S.data.toList.take j)) (by rw[extract_take]; exact hpn) wr
          obtain ⟨p,hp⟩:∃p,p=dval 0 (S.data.toList.take j):=⟨_,rfl⟩
          obtain ⟨x,hx⟩:∃x,x=10^j:=⟨_,rfl⟩
          rw[←hp] at hpu
          have hx9:x≤1000000000:=by rw[hx]; exact Nat.pow_le_pow_right (by decide) hn2
          have hp9:p<1000000000:=by
           have h:=dval_lt _ 0 hta
           rw[←hp,htl,←hx] at h
           omega
          rw[←hx]
          have hsh:dval 0 (pre++S.data.toList.take j)=x*val l+p:=by rw[dval_append,dval_shift,←hp,htl,←hx,hl.out.2.2.2.1,Nat.mul_comm]
          have hdr:(S.extract j S.size).data.toList=S.data.toList.drop j:=by rw[extract_drop]
          have hdz2:(S.extract j S.size).size=S.size-j:=by rw[ByteArray.size_extract]; omega
          have hle:l.length≤65536:=by
           have h1:=congrArg List.length hl.out.1
           rw[←HDL.out,List.length_append,size_list DS] at h1
           have:=hl.out.2.2.2.2
           omega
          have HPU:=ZH hpu
          have HR:=ZH (ZN hsh (ZN hdr (ZN htl hle)))
          have hpm:(p:Int)%4294967296=(p:Int):=by omega
          clear hpu hsz hall htl hta hpn hx hp hsh hdr hle
          go_wp2_with fail
          refine HPU.out.mono ?_
          rintro e wp ⟨rfl,hwp⟩
          have hbp:Below wr.heap.size wr wp:=by
           rcases hwp with rfl | rfl
           ·exact ZR _ _
           ·exact Lib.bytesWorld_below _ _ _
          have HSC:=ZH (scale_any (x:=x) (p:=p) (hl.out.2.1.below hbp) (by have:=HR.out.2.2.2; omega) (by omega) (by omega))
          have HBP:=ZH hbp
          clear hwp hbp
          go_wp2_with fail
          refine HSC.out.mono ?_
          rintro e w4 ⟨v4,r,rfl,hm4,hn4,hv4,hl4,hb4⟩
          obtain ⟨a4,c4,rfl,hc4,-⟩:=id hm4
          have H4:=ZH (ZN hm4 (ZN hn4 (ZN hv4 (ZN hl4 hb4))))
          clear hm4 hn4 hv4 hl4 hb4
          go_wp2_with fail
          refine ⟨⟨_,pre++S.data.toList.take j,r,a4,c4,rfl,rfl,by rw[hdz2]; omega,ZH ⟨?_,H4.out.1,H4.out.2.1,?_,?_⟩,ZH ?_⟩,?_⟩
          ·rw[HR.out.2.1,List.append_assoc,List.take_append_drop]
           exact hl.out.1
          ·rw[H4.out.2.2.1,HR.out.1]
          ·rw[List.length_append,HR.out.2.2.1]
           have:=H4.out.2.2.2.1
           have:=hl.out.2.2.2.2
           omega
          ·exact hbw.out.trans ((HBP.out.mono hbw.out.size).trans (H4.out.2.2.2.2.mono (Nat.le_trans hbw.out.size HBP.out.size)))
          ·show (S.extract j S.size).size<S.size
           rw[hdz2]
           omega
       ·have e8:((0:Int)<(S.size:Int))=False:=eq_false (by omega)
        have HS:=ZH (signed_any false hl.out.2.1)
        go_wp2_with fail
        refine HS.out.mono ?_
        rintro e w3 ⟨v,rfl,hv,hb3⟩
        obtain ⟨s4,a4,c4,l4,rfl,-⟩:=int_sign hv
        have hlt2:bc<w2.heap.size:=Nat.lt_of_lt_of_le (ZL HAL.out.2.2) H2.out.size
        have hb23:Below w2.heap.size w2 w3:=hbw.out.trans (hb3.mono hbw.out.size)
        have z0:=ZJ hb23 z0
        have z1:=ZJ hb23 z1
        have f0:=frozen_below hb23 (p:=⟨bc,0,none⟩) hlt2 f0
        have f1:=frozen_below hb23 (p:=⟨bc,1,none⟩) hlt2 f1
        have hblk:=(hb23.block bc hlt2).trans ((H2.out.block bc (ZL HAL.out.2.2)).trans HAL.out.2.2)
        have hnil:S.data.toList = []:=List.length_eq_zero_iff.1 (by rw[size_list]; omega)
        have hpre:pre=unsign s.data.toList:=by
         have h:=hl.out.1
         rwa[hnil,List.append_nil] at h
        have hle:pre.length≤s.data.toList.length:=by
         rw[hpre]
         unfold unsign
         split
         ·rw[List.length_tail]; omega
         ·exact Nat.le_refl _
        have hi:=(hv.store hblk (.bool s4) (.slice a4 l4.length c4)).more (show l.length≤s.data.toList.length+1 by have:=hl.out.2.2.2.2; omega)
        have hpv:parseVal s.data.toList=int false l:=by
         unfold parseVal int
         rw[hl.out.2.2.2.1,hpre,←HD.out.2]
         try rfl
        rw[←hpv] at hi
        have hbf:Below w.heap.size w ((w3.setCell ⟨bc,0,none⟩ (.bool s4)).setCell ⟨bc,1,none⟩ (.slice a4 l4.length c4)):=((HAL.out.1.trans ((H2.out.mono HAL.out.1.size).trans (hb23.mono (Nat.le_trans HAL.out.1.size H2.out.size)))).setCell HAL.out.2.1 _).setCell HAL.out.2.1 _
        have HF:=ZH (ZN hi hbf)
        clear hblk hi hbf hb23 hb3 hv hnil hpre hle hpv
        go_wp2_with fail
        exact bodyPost_ret (v:=.tuple #[.agg #[.bool s4,.slice a4 l4.length c4],.int .i64 0]) (by simp[results,Tryz.results129,go_sem,z0,z1]) rfl ⟨_,by rw[HE.out],fun _=>HF.out.1,fun h=>absurd HE.out h,HF.out.2⟩
end Go.Proofs.YtdcaaehapdhckaaGreatDoor
