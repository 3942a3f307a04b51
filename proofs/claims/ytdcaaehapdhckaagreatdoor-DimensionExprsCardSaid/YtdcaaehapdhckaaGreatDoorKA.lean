/- Integers as digits with the base 2^32, the lowest one first. No program stands here. -/
import Derived.IntWalk
import Derived.Test.YtdcaaehapdhckaaGreatDoorProg
import Derived.WalkKit
import Derived.Outline
import Derived.WalkLawsBesides
import Derived.WalkSpells
import Derived.Below
import Derived.Deep.OwnRows
import Derived.Lib.Hide
import Derived.Deep.CutRange
import Derived.Deep.RegionHeld3
import Derived.BigQuiet
set_option linter.unusedSimpArgs false
set_option linter.unusedVariables false
set_option maxRecDepth 100000
namespace Go.Num

def val : List Nat→Nat
 | []=>0
 | d::r=>d+4294967296*val r
def Ok (l:List Nat):Prop:=∀d∈l,d<4294967296
def Norm (l:List Nat):Prop:=∀k,l.length=k+1→l.getD k 0≠0
def pw : Nat→Nat
 | 0=>1
 | n+1=>4294967296*pw n
theorem pw_pos : ∀n,0<pw n
 | 0=>by simp[pw]
 | n+1=>by have:=pw_pos n; simp only[pw]; omega
theorem pw_add (a:Nat):∀b,pw (a+b)=pw a*pw b
 | 0=>by simp[pw]
 | b+1=>by rw[←Nat.add_assoc]; simp only[pw]; rw[pw_add a b,Nat.mul_left_comm]
theorem pw_le {a b:Nat} (h:a≤b):pw a≤pw b:=by
 obtain ⟨c,rfl⟩:∃c,b=a+c:=⟨b-a,by omega⟩
 rw[pw_add]
 exact Nat.le_mul_of_pos_right _ (pw_pos c)
theorem ok_nil : Ok []:=fun _ h=>by cases h
theorem ok_cons {d:Nat} {l:List Nat}:Ok (d::l)↔d<4294967296∧Ok l:=by simp[Ok]
theorem ok_append {a b:List Nat}:Ok (a++b)↔Ok a∧Ok b:=by
 constructor
 ·exact fun h=>⟨fun d hd=>h d (by simp[hd]),fun d hd=>h d (by simp[hd])⟩
 ·rintro ⟨h1,h2⟩ d hd
  rcases List.mem_append.1 hd with h | h
  ·exact h1 d h
  ·exact h2 d h
theorem Ok.take {l:List Nat} (h:Ok l) (n:Nat):Ok (l.take n):=fun d hd=>h d (List.mem_of_mem_take hd)
theorem Ok.drop {l:List Nat} (h:Ok l) (n:Nat):Ok (l.drop n):=fun d hd=>h d (List.mem_of_mem_drop hd)
theorem Ok.at {l:List Nat} (h:Ok l) (k:Nat):l.getD k 0<4294967296:=by
 rcases Nat.lt_or_ge k l.length with hk | hk
 ·rw[List.getD_eq_getElem?_getD,List.getElem?_eq_getElem hk]
  exact h _ (List.getElem_mem hk)
 ·rw[List.getD_eq_getElem?_getD,List.getElem?_eq_none hk]
  decide
theorem val_append : ∀a b:List Nat,val (a++b)=val a+pw a.length*val b
 | [],b=>by simp[val,pw]
 | d::a,b=>by
  rw[List.cons_append,val,val,val_append a b,List.length_cons,pw,Nat.mul_add,Nat.mul_assoc,Nat.add_assoc]
theorem val_lt : ∀{l:List Nat},Ok l→val l<pw l.length
 | [],_=>by simp[val,pw]
 | d::l,h=>by
  have h1:=(ok_cons.1 h).1
  have h2:=val_lt (ok_cons.1 h).2
  rw[val,List.length_cons,pw]
  omega
theorem val_zero (n:Nat):val (List.replicate n 0)=0:=by
 induction n with
 | zero=>rfl
 | succ n ih=>rw[List.replicate_succ,val,ih]
theorem take_succ_val {l:List Nat} {k:Nat} (h:k<l.length):val (l.take (k+1))=val (l.take k)+pw k*l.getD k 0:=by
 rw[List.take_succ_eq_append_getElem h,val_append,List.length_take,Nat.min_eq_left (by omega),List.getD_eq_getElem?_getD,List.getElem?_eq_getElem h]
 simp[val]
theorem drop_val {l:List Nat} {k:Nat} (h:k<l.length):val (l.drop k)=l.getD k 0+4294967296*val (l.drop (k+1)):=by
 rw[List.drop_eq_getElem_cons h,val,List.getD_eq_getElem?_getD,List.getElem?_eq_getElem h]
 rfl
theorem take_drop_val (l:List Nat) (k:Nat) (h:k≤l.length):val l=val (l.take k)+pw k*val (l.drop k):=by
 have:=val_append (l.take k) (l.drop k)
 rw[List.take_append_drop,List.length_take,Nat.min_eq_left h] at this
 exact this
theorem take_zeros {l:List Nat} {k:Nat} (hk:k<l.length) (h:l.getD k 0=0):val (l.take (k+1))=val (l.take k):=by rw[take_succ_val hk,h,Nat.mul_zero,Nat.add_zero]
theorem norm_nil : Norm []:=fun k h=>by simp at h
theorem norm_ge {l:List Nat} {k:Nat} (h:Norm l) (hl:l.length=k+1):pw k≤val l:=by
 have h1:=take_drop_val l k (by omega)
 have h2:=drop_val (l:=l) (k:=k) (by omega)
 have h3:=h k hl
 have h4:pw k*1≤pw k*val (l.drop k):=Nat.mul_le_mul_left _ (by omega)
 omega
theorem norm_length {l:List Nat} {k:Nat} (h:Norm l) (hv:val l<pw k):l.length≤k:=by
 cases hl:l.length with
 | zero=>exact Nat.zero_le _
 | succ n=>
  have h1:=norm_ge h hl
  rcases Nat.lt_or_ge k (n+1) with h2 | h2
  ·have:=pw_le (a:=k) (b:=n) (by omega)
   omega
  ·exact h2
theorem norm_pos {l:List Nat} (h:Norm l):val l=0↔l = []:=by
 constructor
 ·intro hv
  cases hl:l.length with
  | zero=>exact List.length_eq_zero_iff.1 hl
  | succ n=>
   have:=norm_ge h hl
   have:=pw_pos n
   omega
 ·rintro rfl
  rfl
theorem norm_short {a b:List Nat} (ha:Ok a) (hb:Norm b) (h:a.length<b.length):val a<val b:=by
 obtain ⟨k,hk⟩:∃k,b.length=k+1:=⟨b.length-1,by omega⟩
 have h1:=val_lt ha
 have h2:=norm_ge hb hk
 have h3:=pw_le (a:=a.length) (b:=k) (by omega)
 omega
theorem above_lt {a b:List Nat} {k:Nat} (ha:Ok a) (hk:k<a.length) (hl:a.length=b.length) (hab:val (a.drop (k+1))=val (b.drop (k+1))) (h:a.getD k 0<b.getD k 0):val a<val b:=by
 have h1:=take_drop_val a k (by omega)
 have h2:=take_drop_val b k (by omega)
 rw[drop_val hk] at h1
 rw[drop_val (by omega),←hab] at h2
 have h3:=val_lt (ha.take k)
 rw[List.length_take,Nat.min_eq_left (by omega)] at h3
 have h4:pw k*(a.getD k 0+4294967296*val (a.drop (k+1)))+pw k≤pw k*(b.getD k 0+4294967296*val (a.drop (k+1))):=by
  have:pw k*(a.getD k 0+4294967296*val (a.drop (k+1))+1)≤pw k*(b.getD k 0+4294967296*val (a.drop (k+1))):=Nat.mul_le_mul_left _ (by omega)
  rw[Nat.mul_add,Nat.mul_one] at this
  exact this
 omega
theorem above_eq {a b:List Nat} {k:Nat} (hk:k<a.length) (hl:a.length=b.length) (hab:val (a.drop (k+1))=val (b.drop (k+1))) (h:a.getD k 0=b.getD k 0):val (a.drop k)=val (b.drop k):=by
 rw[drop_val hk,drop_val (l:=b) (by omega),hab,h]
def int (neg:Bool) (l:List Nat):Int:=if neg then -(val l:Int) else (val l:Int)
theorem set_val {l:List Nat} {k d:Nat} (hk:k<l.length):val ((l.set k d).take (k+1))=val (l.take k)+pw k*d:=by
 have h1:(l.set k d).take k=l.take k:=by rw[List.take_set,List.set_eq_of_length_le (by rw[List.length_take]; omega)]
 have h2:(l.set k d).getD k 0=d:=by simp[List.getD_eq_getElem?_getD,hk]
 rw[take_succ_val (by simpa using hk),h1,h2]
theorem Ok.set {l:List Nat} (h:Ok l) (k:Nat) {d:Nat} (hd:d<4294967296):Ok (l.set k d):=fun x hx=>by
 rcases List.mem_or_eq_of_mem_set hx with h1 | rfl
 ·exact h x h1
 ·exact hd
theorem ok_zero (n:Nat):Ok (List.replicate n 0):=fun d hd=>by rw[(List.mem_replicate.1 hd).2]; decide
theorem div_mod (s:Nat):s%4294967296+4294967296*(s/4294967296)=s:=Nat.mod_add_div s 4294967296
theorem step_val {o:List Nat} {i:Nat} (hi:i<o.length) (s:Nat):val ((o.set i (s%4294967296)).take (i+1))+pw (i+1)*(s/4294967296)=val (o.take i)+pw i*s:=by
 rw[set_val hi]
 have h:=div_mod s
 have e:pw (i+1)*(s/4294967296)=pw i*(4294967296*(s/4294967296)):=by
  simp only[pw]
  rw[Nat.mul_comm 4294967296 (pw i),Nat.mul_assoc]
 rw[e,Nat.add_assoc,←Nat.mul_add,h]
theorem take_more {l:List Nat} {k:Nat} (h:l.length≤k):val (l.take (k+1))=val (l.take k)+pw k*l.getD k 0:=by
 rw[List.take_of_length_le (by omega),List.take_of_length_le h,List.getD_eq_getElem?_getD,List.getElem?_eq_none h]
 simp
theorem take_step (l:List Nat) (k:Nat):val (l.take (k+1))=val (l.take k)+pw k*l.getD k 0:=by
 rcases Nat.lt_or_ge k l.length with h | h
 ·exact take_succ_val h
 ·exact take_more h
theorem plus_step {o a b:List Nat} {i c:Nat} (hi:i<o.length) (h:val (o.take i)+pw i*c=val (a.take i)+val (b.take i)) :
  val ((o.set i ((c+a.getD i 0+b.getD i 0)%4294967296)).take (i+1))+pw (i+1)*((c+a.getD i 0+b.getD i 0)/4294967296)=val (a.take (i+1))+val (b.take (i+1)):=by
 rw[step_val hi,take_step a,take_step b,Nat.mul_add,Nat.mul_add]
 omega
theorem minus_step {o a b:List Nat} {i c c2 d:Nat} (hi:i<o.length) (h:val (o.take i)+val (b.take i)=val (a.take i)+pw i*c) (hd:d+b.getD i 0+c=a.getD i 0+4294967296*c2) :
  val ((o.set i d).take (i+1))+val (b.take (i+1))=val (a.take (i+1))+pw (i+1)*c2:=by
 rw[set_val hi,take_step a,take_step b]
 have e:pw (i+1)*c2=pw i*(4294967296*c2):=by
  simp only[pw]
  rw[Nat.mul_comm 4294967296 (pw i),Nat.mul_assoc]
 have e2:pw i*d+pw i*b.getD i 0+pw i*c=pw i*a.getD i 0+pw i*(4294967296*c2):=by
  rw[←Nat.mul_add,←Nat.mul_add,←Nat.mul_add,hd]
 omega
theorem set_full : ∀{l:List Nat} {j:Nat} (d:Nat),j<l.length→val (l.set j d)+pw j*l.getD j 0=val l+pw j*d
 | x::l,0,d,_=>by simp[val,pw]; omega
 | x::l,j+1,d,h=>by
  have ih:=set_full (l:=l) (j:=j) d (by simpa using h)
  rw[List.set_cons_succ,val,val,pw,List.getD_cons_succ,Nat.mul_assoc,Nat.mul_assoc]
  omega
theorem set_carry {l:List Nat} {j s:Nat} (h:j<l.length):val (l.set j (s%4294967296))+pw (j+1)*(s/4294967296)+pw j*l.getD j 0=val l+pw j*s:=by
 have h1:=set_full (s%4294967296) h
 have e:pw (j+1)*(s/4294967296)=pw j*(4294967296*(s/4294967296)):=by
  simp only[pw]
  rw[Nat.mul_comm 4294967296 (pw j),Nat.mul_assoc]
 have h2:pw j*s=pw j*(s%4294967296)+pw j*(4294967296*(s/4294967296)):=by rw[←Nat.mul_add,div_mod]
 omega
theorem short_step {a q:List Nat} {i r b:Nat} (hi:i<a.length) (hl:q.length=a.length) (h:val (a.drop (i+1))=b*val (q.drop (i+1))+r) :
  val (a.drop i)=b*val ((q.set i ((r*4294967296+a.getD i 0)/b)).drop i)+(r*4294967296+a.getD i 0)%b:=by
 have h1:(q.set i ((r*4294967296+a.getD i 0)/b)).drop (i+1)=q.drop (i+1):=by rw[List.drop_set_of_lt (by omega)]
 have h2:(q.set i ((r*4294967296+a.getD i 0)/b)).getD i 0=(r*4294967296+a.getD i 0)/b:=by simp[List.getD_eq_getElem?_getD,hl,hi]
 rw[drop_val hi,drop_val (l:=q.set i ((r*4294967296+a.getD i 0)/b)) (by simpa[hl] using hi),h1,h2,h,Nat.mul_add,Nat.mul_add]
 have h3:=Nat.mod_add_div (r*4294967296+a.getD i 0) b
 have e:b*(4294967296*val (q.drop (i+1)))=4294967296*(b*val (q.drop (i+1))):=by rw[Nat.mul_left_comm]
 omega
theorem short_digit {r b d:Nat} (hr:r<b) (hd:d<4294967296):(r*4294967296+d)/b<4294967296:=by
 rw[Nat.div_lt_iff_lt_mul (by omega)]
 have:(r+1)*4294967296≤b*4294967296:=Nat.mul_le_mul_right _ (by omega)
 rw[Nat.mul_comm 4294967296 b]
 omega
end Go.Num
set_option maxRecDepth 100000
namespace Go.Proofs.YtdcaaehapdhckaaGreatDoor
open Go.RowKit Go.Num
theorem ZH {p:Prop} (h:p):RowKit.Hid p:=Lib.hid h
theorem ZN {a b:Prop} (h:a) (k:b):a∧b:=⟨h,k⟩
theorem ZR (B:Nat) (w:World):Below B w w:=Below.refl B w
theorem ZL {w:World} {b:Nat} {o:Obj} (h:w.heap[b]?=some o):b<w.heap.size:=lt_of_block h
theorem ZW (w:World) (o:Obj):(w.alloc o).heap[w.heap.size]?=some o:=heap_alloc_new w o
theorem ZT {p:Prop} [Decidable p] (h:p):decide p=true:=decide_eq_true h
theorem ZU {p:Prop} [Decidable p] (h:¬p):decide p=false:=decide_eq_false h
theorem ZQ {α:Type} [BEq α] [LawfulBEq α] {a b:α}:(a==b)=false↔a≠b:=beq_eq_false_iff_ne

theorem ZI {w:World} {b:Nat} {cs:Array Value} {t:TypeId} (h:w.heap[b]?=some (.cells cs t (0,0))) (i:Nat):w.cell? ⟨b,i,none⟩=cs[i]?:=by simp[World.cell?,h]
theorem ZF {w:World} {b:Nat} {cs:Array Value} {t:TypeId} (h:w.heap[b]?=some (.cells cs t (0,0))) (i:Nat):w.frozen? ⟨b,i,none⟩=false:=by simp[World.frozen?,h]
theorem below_drawn (w:World) (n:Nat):Below w.heap.size w (w.drewN n):=⟨rfl,rfl,rfl,Nat.le_refl _,fun _ _=>rfl⟩
theorem ZJ {w w':World} (hb:Below w.heap.size w w') {p:Addr} {v:Value} (h:w.cell? p=some v):w'.cell? p=some v:=by
 refine (hb.cell (p:=p) ?_).trans h
 unfold World.cell? at h
 rcases Nat.lt_or_ge p.block w.heap.size with h1 | h1
 ·exact h1
 ·rw[Array.getElem?_eq_none h1] at h
  cases h
def u32V (d:Nat):Value:=.int .u32 (d:Int)
def MagIn (w:World) (v:Value) (l:List Nat):Prop:=∃ao c,v=.slice ao l.length c∧l.length≤c∧c≤maxLen∧Ok l∧(0<l.length→∃b off,ao=some ⟨b,off,none⟩∧b<w.heap.size∧∀j,j<l.length→w.cell? ⟨b,off+j,none⟩=some (u32V (l.getD j 0)))
theorem MagIn.below {w w':World} {v:Value} {l:List Nat} (h:MagIn w v l) (hb:Below w.heap.size w w'):MagIn w' v l:=by
 obtain ⟨ao,c,e,h1,h2,h3,h4⟩:=h
 refine ⟨ao,c,e,h1,h2,h3,fun h0=>?_⟩
 obtain ⟨b,off,e2,hlt,hc⟩:=h4 h0
 exact ⟨b,off,e2,Nat.lt_of_lt_of_le hlt hb.size,fun j hj=>(hb.cell (p:=⟨b,off+j,none⟩) hlt).trans (hc j hj)⟩
theorem mag_nil (w:World):MagIn w (.slice none 0 0) []:=⟨none,0,rfl,Nat.le_refl _,by unfold maxLen; omega,ok_nil,fun h=>absurd h (by simp)⟩
theorem MagIn.take {w:World} {ao:Option Addr} {c n:Nat} {l:List Nat} (h:MagIn w (.slice ao l.length c) l) (hn:n≤l.length):MagIn w (.slice ao n c) (l.take n):=by
 obtain ⟨ao',c',e,h1,h2,h3,h4⟩:=h
 simp only[Value.slice.injEq,true_and] at e
 obtain ⟨rfl,rfl⟩:=e
 have hl:(l.take n).length=n:=by rw[List.length_take]; omega
 refine ⟨ao,c,by rw[hl],by rw[hl]; omega,h2,h3.take n,fun h0=>?_⟩
 rw[hl] at h0⊢
 obtain ⟨b,off,e2,hlt,hc⟩:=h4 (by omega)
 refine ⟨b,off,e2,hlt,fun j hj=>?_⟩
 rw[hc j (by omega),List.getD_eq_getElem?_getD,List.getD_eq_getElem?_getD,List.getElem?_take_of_lt hj]
def IntIn (w:World) (v:Value) (z:Int) (k:Nat):Prop:=∃neg ms l,v=.agg #[.bool neg,ms]∧MagIn w ms l∧Norm l∧(l = []→neg=false)∧z=int neg l∧l.length≤k
theorem IntIn.below {w w':World} {v:Value} {z:Int} {k:Nat} (h:IntIn w v z k) (hb:Below w.heap.size w w'):IntIn w' v z k:=by
 obtain ⟨neg,ms,l,e,h1,h2⟩:=h
 exact ⟨neg,ms,l,e,h1.below hb,h2⟩
theorem IntIn.more {w:World} {v:Value} {z:Int} {k m:Nat} (h:IntIn w v z k) (hm:k≤m):IntIn w v z m:=by
 obtain ⟨neg,ms,l,e,h1,h2,h3,h4,h5⟩:=h
 exact ⟨neg,ms,l,e,h1,h2,h3,h4,by omega⟩
def DigRow (w:World) (g:Nat) (o:List Nat):Prop:=w.rowIs g 145 o.length fun i=>u32V (o.getD i 0)
theorem DigRow.at {w:World} {g:Nat} {o:List Nat} (h:DigRow w g o) {i:Nat} (hi:i<o.length):w.cell? ⟨g,i,none⟩=some (u32V (o.getD i 0)):=World.rowIs.cell h hi
theorem DigRow.set {w:World} {g:Nat} {o:List Nat} (h:DigRow w g o) {i:Nat} (hi:i<o.length) (d:Nat):DigRow (w.setCell ⟨g,i,none⟩ (u32V d)) g (o.set i d):=by
 have h1:=World.rowIs.set h i (u32V d)
 unfold DigRow
 rw[List.length_set]
 refine h1.congr fun j hj=>?_
 by_cases e:j=i
 ·subst e
  rw[if_pos rfl]
  simp[List.getD_eq_getElem?_getD,hi]
 ·rw[if_neg e]
  simp[List.getD_eq_getElem?_getD,List.getElem?_set_ne (Ne.symm e)]
theorem DigRow.mag {w:World} {g:Nat} {o:List Nat} (h:DigRow w g o) (ho:Ok o) (hl:o.length≤maxLen):MagIn w (.slice (some ⟨g,0,none⟩) o.length o.length) o:=
 ⟨_,_,rfl,Nat.le_refl _,hl,ho,fun _=>⟨g,0,rfl,World.rowIs.lt h,fun j hj=>by rw[Nat.zero_add]; exact h.at hj⟩⟩
theorem dig_made (w:World) (n:Nat):DigRow (w.alloc (.cells (madeCells #[.int .u32 0] n) 145)) w.heap.size (List.replicate n 0):=by
 have h:=World.rowIs_made w (.int .u32 0) n 145
 unfold DigRow
 rw[List.length_replicate]
 refine h.congr fun j hj=>?_
 simp[u32V,List.getD_eq_getElem?_getD,hj]
theorem infoU32 : (Tryz.prog.info? 145).map (fun i=>(i.zero,i.size,i.bytes))=some (some (.int .u32 0),1,4):=by kernel_rfl
theorem make_dig (n:Nat) (hn:n≤16777216) (w:World):(Instr.makeSlice 43 (.int .i64 (n:Int)) (.int .i64 (n:Int))).run Tryz.prog w=.ok (.slice (some ⟨w.heap.size,0,none⟩) n n) (w.alloc (.cells (madeCells #[.int .u32 0] n) 145)):=
 run_make_row' 43 145 (.int .u32 0) 4 Tryz.underlying43 infoU32 rfl .i64 .i64 n (by omega) (by omega) w
set_option maxHeartbeats 2000000
def sliceLen : Value→Nat
 | .slice _ n _=>n
 | _=>0
theorem mag_len {w:World} {v:Value} {l:List Nat} (h:MagIn w v l):∃ao c,v=.slice ao l.length c∧l.length≤c∧c≤9223372036854775807:=by
 obtain ⟨ao,c,e,h1,h2,_⟩:=h
 exact ⟨ao,c,e,h1,by unfold maxLen at h2; omega⟩
theorem trim_any {w:World} {v:Value} {l:List Nat} (h:MagIn w v l) :
  Calls Tryz.prog 142 #[v] w fun e w'=>∃ao c n,v=.slice ao l.length c∧e=.returned (.slice ao n c)∧w'=w∧n≤l.length∧Norm (l.take n)∧val (l.take n)=val l:=by
 obtain ⟨ao,c,rfl,hc1,hc2,-,hcell⟩:=h
 have HC:=ZH hcell
 unfold maxLen at hc2
 obtain ⟨N,hN⟩:∃N,N=l.length:=⟨_,rfl⟩
 rw[←hN] at hc1 HC⊢
 have HN:=ZH hN
 clear hcell hN
 go_enter Tryz.func142,Tryz.ntmps142
 go_wp2_with fail
 go_loopw [0] (fun m wr=>wr=w∧∃n:Nat,n≤N∧m=.slice ao n c∧Hid (val (l.take n)=val l)) (fun m _=>sliceLen m)
 case atStart=>exact ⟨rfl,N,Nat.le_refl _,by rw[HN.out],ZH (by rw[HN.out,List.take_length])⟩
 case round=>
  obtain ⟨rfl,n,hn,rfl,hv⟩:=hrel
  cases n with
  | zero=>
   go_wp2_with fail
   go_ret
   exact ⟨_,_,0,rfl,rfl,rfl,Nat.zero_le _,norm_nil,hv.out⟩
  | succ n=>
   obtain ⟨b,off,rfl,hlt,hcell⟩:=HC.out (by omega)
   have x0:=hcell n (by omega)
   have hi0:(0:Int)≤(n:Int):=by omega
   have hi1:(n:Int)<((n:Int)+1):=by omega
   obtain ⟨d,hd⟩:∃d,d=l.getD n 0:=⟨_,rfl⟩
   rw[←hd] at x0
   unfold u32V at x0
   have HD:=ZH hd
   clear hcell hd
   by_cases h0:d=0
   ·subst h0
    go_wp2_with fail
    go_roundw
    case rel=>
     refine ⟨trivial,n,by omega,?_,ZH ?_⟩
     ·go_num
     ·rw[←hv.out,take_zeros (by rw[←HN.out]; omega) HD.out.symm]
    case measure=>simp[sliceLen]
   ·have h0':((d:Int)==0)=false:=by simp[h0]
    go_wp2_with fail
    go_ret
    refine ⟨_,_,n+1,rfl,rfl,rfl,hn,fun k hk=>?_,hv.out⟩
    rw[List.length_take,←HN.out] at hk
    obtain rfl:k=n:=by omega
    rw[List.getD_eq_getElem?_getD,List.getElem?_take_of_lt (by omega),←List.getD_eq_getElem?_getD,←HD.out]
    exact h0
def cmpI (x y:Int):Int:=if x<y then -1 else if y<x then 1 else 0
theorem cmp_lt {x y:Nat} (h:x<y):cmpI (x:Int) (y:Int) = -1:=by unfold cmpI; rw[if_pos (by omega)]
theorem cmp_gt {x y:Nat} (h:y<x):cmpI (x:Int) (y:Int)=1:=by unfold cmpI; rw[if_neg (by omega),if_pos (by omega)]
theorem cmp_eq {x y:Nat} (h:x=y):cmpI (x:Int) (y:Int)=0:=by unfold cmpI; rw[if_neg (by omega),if_neg (by omega)]
theorem order_any {w:World} {va vb:Value} {a b:List Nat} (ha:MagIn w va a) (hb:MagIn w vb b) (na:Norm a) (nb:Norm b) :
  Calls Tryz.prog 132 #[va,vb] w fun e w'=>e=.returned (.int .i64 (cmpI (val a) (val b)))∧Below w.heap.size w w':=by
 obtain ⟨ao,c,rfl,hc1,hc2,oa,hca⟩:=ha
 obtain ⟨bo,c',rfl,hc3,hc4,ob,hcb⟩:=hb
 have HA:=ZH hca
 have HB:=ZH hcb
 have HOA:=ZH (ZN oa (ZN ob (ZN na nb)))
 unfold maxLen at hc2 hc4
 obtain ⟨N,hN⟩:∃N,N=a.length:=⟨_,rfl⟩
 obtain ⟨M,hM⟩:∃M,M=b.length:=⟨_,rfl⟩
 rw[←hN] at hc1 HA⊢
 rw[←hM] at hc3 HB⊢
 have HN:=ZH (ZN hN hM)
 clear hca hcb oa ob na nb hN hM
 by_cases hlt:N<M
 ·have e1:((N:Int) != (M:Int))=true:=bne_iff_ne.2 (by omega)
  have e2:((N:Int)<(M:Int))=True:=eq_true (by omega)
  rw[cmp_lt (norm_short HOA.out.1 HOA.out.2.2.2 (by rw[←HN.out.1,←HN.out.2]; exact hlt))]
  clear hlt
  go_enter Tryz.func132,Tryz.ntmps132
  go_wp2_with fail
  go_ret
  exact ⟨rfl,ZR _ _⟩
 by_cases hgt:M<N
 ·have e1:((N:Int) != (M:Int))=true:=bne_iff_ne.2 (by omega)
  have e2:((N:Int)<(M:Int))=False:=eq_false (by omega)
  rw[cmp_gt (norm_short HOA.out.2.1 HOA.out.2.2.1 (by rw[←HN.out.1,←HN.out.2]; exact hgt))]
  clear hlt hgt
  go_enter Tryz.func132,Tryz.ntmps132
  go_wp2_with fail
  go_ret
  exact ⟨rfl,ZR _ _⟩
 obtain rfl:M=N:=by omega
 clear hlt hgt
 have e1:((M:Int) != (M:Int))=false:=by simp
 go_enter Tryz.func132,Tryz.ntmps132
 go_wp2_with fail
 go_loopw [5] (fun i wr=>Below w.heap.size w wr∧∃(k:Nat) (q:Int),k≤M∧q=(k:Int)-1∧i=.int .i64 q∧Hid (val (a.drop k)=val (b.drop k))) (fun i _=>(intOf i+1).toNat)
 case atStart=>exact ⟨ZR _ _,M,_,Nat.le_refl _,rfl,rfl,ZH (by rw[List.drop_eq_nil_of_le (by rw[HN.out.1]; exact Nat.le_refl _),List.drop_eq_nil_of_le (by rw[←HN.out.2]; exact Nat.le_refl _)])⟩
 case round=>
  obtain ⟨hbw,k,q,hk,hq,rfl,hv⟩:=hrel
  have HBW:=ZH hbw
  clear hbw
  cases k with
  | zero=>
   rw[List.drop_zero,List.drop_zero] at hv
   have hc:=cmp_eq hv.out
   obtain rfl:q = -1:=by omega
   have e3:((0:Int)≤-1)=False:=by simp
   have HCZ:=ZH hc
   clear hq hc
   go_wp2_with fail
   go_ret
   exact ⟨by rw[HCZ.out]; rfl,HBW.out⟩
  | succ k=>
   obtain ⟨ba,offa,rfl,hlta,hcella⟩:=HA.out (by omega)
   obtain ⟨bb,offb,rfl,hltb,hcellb⟩:=HB.out (by omega)
   have x0:=(HBW.out.cell (p:=⟨ba,offa+k,none⟩) hlta).trans (hcella k (by omega))
   have x1:=(HBW.out.cell (p:=⟨bb,offb+k,none⟩) hltb).trans (hcellb k (by omega))
   obtain ⟨da,hda⟩:∃d,d=a.getD k 0:=⟨_,rfl⟩
   obtain ⟨db,hdb⟩:∃d,d=b.getD k 0:=⟨_,rfl⟩
   rw[←hda] at x0
   rw[←hdb] at x1
   unfold u32V at x0 x1
   have HD:=ZH (ZN hda hdb)
   have hi0:(0:Int)≤(k:Int):=by omega
   have hi1:(k:Int)<(M:Int):=by omega
   obtain rfl:q=(k:Int):=by omega
   have hka:k<a.length:=by rw[←HN.out.1]; omega
   have hal:a.length=b.length:=by rw[←HN.out.1,←HN.out.2]
   have HKA:=ZH (ZN hka hal)
   clear hcella hcellb hda hdb hka hal hq
   have e3:((0:Int)≤(k:Int))=True:=eq_true hi0
   by_cases h1:da=db
   ·have e4:((da:Int) != (db:Int))=false:=by simp[h1]
    have hab:=above_eq HKA.out.1 HKA.out.2 hv.out (by rw[←HD.out.1,←HD.out.2]; exact h1)
    have HAB:=ZH hab
    clear h1 hab
    go_upto_region 8 with fail
    go_region
    all_goals
     go_wp2_with fail
     go_roundw
     case rel=>exact ⟨HBW.out.drew,k,_,by omega,rfl,by go_num,HAB⟩
     case measure=>simp[intOf]
   ·have e4:((da:Int) != (db:Int))=true:=bne_iff_ne.2 (by omega)
    by_cases h2:da<db
    ·have hc:=cmp_lt (above_lt HOA.out.1 HKA.out.1 HKA.out.2 hv.out (by rw[←HD.out.1,←HD.out.2]; exact h2))
     have e5:((da:Int)<(db:Int))=True:=eq_true (by omega)
     have HCC:=ZH hc
     clear h1 h2 hc
     go_upto_region 8 with fail
     go_region
     all_goals
      go_upto_region 9 with fail
      go_region
      all_goals
       go_wp2_with fail
       go_ret
       exact ⟨by rw[HCC.out]; rfl,HBW.out.drew.drew⟩
    ·have hc:=cmp_gt (above_lt HOA.out.2.1 (by rw[←HKA.out.2]; exact HKA.out.1) HKA.out.2.symm hv.out.symm (by rw[←HD.out.1,←HD.out.2]; omega))
     have e5:((da:Int)<(db:Int))=False:=eq_false (by omega)
     have HCC:=ZH hc
     clear h1 h2 hc
     go_upto_region 8 with fail
     go_region
     all_goals
      go_upto_region 9 with fail
      go_region
      all_goals
       go_wp2_with fail
       go_ret
       exact ⟨by rw[HCC.out]; rfl,HBW.out.drew.drew⟩
theorem two_made (w:World) (o p:Array Value) (t u:TypeId):((w.alloc (.cells o t)).alloc (.cells p u)).heap[w.heap.size]?=some (.cells o t (0,0))∧((w.alloc (.cells o t)).alloc (.cells p u)).heap[w.heap.size+1]?=some (.cells p u (0,0)):=by
 have h:=ZW (w.alloc (.cells o t)) (.cells p u)
 have e:(w.alloc (.cells o t)).heap.size=w.heap.size+1:=by simp
 rw[e] at h
 exact ⟨(Below.heap_alloc _ _ _ (by rw[e]; omega)).trans (ZW w _),h⟩
theorem three_made (w:World) (o p q:Array Value) (t u v:TypeId):(((w.alloc (.cells o t)).alloc (.cells p u)).alloc (.cells q v)).heap[w.heap.size]?=some (.cells o t (0,0))∧(((w.alloc (.cells o t)).alloc (.cells p u)).alloc (.cells q v)).heap[w.heap.size+1]?=some (.cells p u (0,0))∧(((w.alloc (.cells o t)).alloc (.cells p u)).alloc (.cells q v)).heap[w.heap.size+2]?=some (.cells q v (0,0)):=by
 have h:=ZW ((w.alloc (.cells o t)).alloc (.cells p u)) (.cells q v)
 have e:((w.alloc (.cells o t)).alloc (.cells p u)).heap.size=w.heap.size+2:=by simp
 rw[e] at h
 obtain ⟨h1,h2⟩:=two_made w o p t u
 exact ⟨(Below.heap_alloc _ _ _ (by rw[e]; omega)).trans h1,(Below.heap_alloc _ _ _ (by rw[e]; omega)).trans h2,h⟩
theorem int_zero {neg:Bool} {l:List Nat} (h:val l=0):int neg l=0:=by unfold int; rw[h]; cases neg<;>rfl
theorem int_same {neg:Bool} {l r:List Nat} (h:val r=val l):int neg l=int neg r:=by unfold int; rw[h]
theorem int_made {w w':World} {ao:Option Addr} {c n:Nat} {neg b:Bool} {l:List Nat} (h:MagIn w (.slice ao l.length c) l) (hn:n≤l.length) (hN:Norm (l.take n)) (hv:val (l.take n)=val l) (hb:Below w.heap.size w w') (hs:b=(neg&&decide (0<n))) :
  IntIn w' (.agg #[.bool b,.slice ao n c]) (int neg l) l.length:=by
 have hl:(l.take n).length=n:=by rw[List.length_take]; omega
 refine ⟨b,_,_,rfl,(h.take hn).below hb,hN,fun h0=>?_,?_,by rw[hl]; exact hn⟩
 ·have:n=0:=by rw[←hl,h0]; rfl
  subst this
  rw[hs]
  cases neg<;>rfl
 ·by_cases h0:n=0
  ·subst h0
   have h1:val l=0:=by rw[←hv]; rfl
   rw[int_zero h1,int_zero (by rw[hv,h1])]
  ·have h1:b=neg:=by rw[hs,ZT (by omega)]; cases neg<;>rfl
   rw[h1]
   exact int_same hv
theorem signed_any {w:World} {v:Value} {l:List Nat} (neg:Bool) (h:MagIn w v l) :
  Calls Tryz.prog 110 #[.bool neg,v] w fun e w'=>∃v',e=.returned v'∧IntIn w' v' (int neg l) l.length∧Below w.heap.size w w':=by
 obtain ⟨wa,hwa⟩:∃wa,wa=w.alloc (.cells #[.bool false,.slice none 0 0] 45):=⟨_,rfl⟩
 obtain ⟨ba,hba⟩:∃ba,ba=w.heap.size:=⟨_,rfl⟩
 have hal:Below w.heap.size w wa:=by rw[hwa]; exact (ZR _ w).alloc (Nat.le_refl _) _
 have hblk:wa.heap[ba]?=some (.cells #[.bool false,.slice none 0 0] 45 (0,0)):=by rw[hwa,hba]; exact ZW w _
 have x0:=ZI hblk 0
 have x1:=ZI hblk 1
 have f0:=ZF hblk 0
 have f1:=ZF hblk 1
 simp at x0 x1
 have hge:w.heap.size≤ba:=by omega
 have HM:=ZH (ZN h (h.below hal))
 have HAL:=ZH (ZN hal hge)
 have HW:=ZH (ZN hwa hba)
 clear h hal hblk hwa hba hge
 go_enter Tryz.func110,Tryz.ntmps110
 go_upto_region 1 with fail
 rw[←HW.out.1,←HW.out.2]
 clear HW
 go_wp2_with fail
 refine (trim_any HM.out.2).mono ?_
 rintro e w1 ⟨ao,c,n,rfl,rfl,rfl,hn,hN,hv⟩
 have HF:=ZH (ZN hn (ZN hN hv))
 have hb2:∀a b:Value,Below w.heap.size w ((w1.setCell ⟨ba,0,none⟩ a).setCell ⟨ba,1,none⟩ b):=fun a b=>(HAL.out.1.setCell HAL.out.2 a).setCell HAL.out.2 b
 have HB2:=ZH hb2
 clear hn hN hv hb2
 by_cases h0:n=0
 ·subst h0
  cases neg with
  | false=>
   go_wp2_with fail
   exact bodyPost_ret (v:=.agg #[.bool false,.slice ao 0 c]) (by simp[results,Tryz.results110,go_sem,x0,x1]) rfl ⟨_,rfl,int_made HM.out.1 HF.out.1 HF.out.2.1 HF.out.2.2 (HB2.out _ _) rfl,HB2.out _ _⟩
  | true=>
   go_wp2_with fail
   exact bodyPost_ret (v:=.agg #[.bool false,.slice ao 0 c]) (by simp[results,Tryz.results110,go_sem,x0,x1]) rfl ⟨_,rfl,int_made HM.out.1 HF.out.1 HF.out.2.1 HF.out.2.2 (HB2.out _ _) rfl,HB2.out _ _⟩
 ·have e1:((0:Int)<(n:Int))=True:=eq_true (by omega)
  have hd:decide (0<n)=true:=ZT (by omega)
  have HD:=ZH hd
  have HP:=ZH (show 0<n by omega)
  clear h0 hd
  cases neg with
  | false=>
   go_wp2_with fail
   exact bodyPost_ret (v:=.agg #[.bool false,.slice ao n c]) (by simp[results,Tryz.results110,go_sem,x0,x1]) rfl ⟨_,rfl,int_made HM.out.1 HF.out.1 HF.out.2.1 HF.out.2.2 (HB2.out _ _) rfl,HB2.out _ _⟩
  | true=>
   go_wp2_with fail
   exact bodyPost_ret (v:=.agg #[.bool true,.slice ao n c]) (by have:=HP.out; simp[results,Tryz.results110,go_sem,x0,x1,this]) rfl ⟨_,rfl,int_made HM.out.1 HF.out.1 HF.out.2.1 HF.out.2.2 (HB2.out _ _) (by rw[HD.out]; rfl),HB2.out _ _⟩
theorem int_sign {w:World} {v:Value} {z:Int} {k:Nat} (h:IntIn w v z k):∃neg ao c l,v=.agg #[.bool neg,.slice ao l.length c]∧MagIn w (.slice ao l.length c) l∧Norm l∧(l = []→neg=false)∧z=int neg l∧l.length≤k∧l.length≤c∧c≤9223372036854775807:=by
 obtain ⟨neg,ms,l,rfl,h1,h2,h3,h4,h5⟩:=h
 obtain ⟨ao,c,rfl,hc1,hc2⟩:=mag_len h1
 exact ⟨neg,ao,c,l,rfl,h1,h2,h3,h4,h5,hc1,hc2⟩
theorem cmp_pos {z:Int} (h:0<z):cmpI z 0=1:=by unfold cmpI; rw[if_neg (by omega),if_pos h]
theorem cmp_neg {z:Int} (h:z<0):cmpI z 0 = -1:=by unfold cmpI; rw[if_pos h]
theorem Sign_any {w:World} {v:Value} {z:Int} {k:Nat} (h:IntIn w v z k):Calls Tryz.prog 85 #[v] w fun e w'=>e=.returned (.int .i64 (cmpI z 0))∧Below w.heap.size w w':=by
 obtain ⟨neg,ao,c,l,rfl,hm,hn,hs,rfl,hk,hc1,hc2⟩:=int_sign h
 have hp:=norm_pos hn
 obtain ⟨N,hN⟩:∃N,N=l.length:=⟨_,rfl⟩
 have hz:cmpI (int neg l) 0=if N=0 then 0 else if neg=true then -1 else 1:=by
  by_cases h0:N=0
  ·rw[if_pos h0,int_zero (hp.2 (List.length_eq_zero_iff.1 (by omega)))]
   rfl
  ·rw[if_neg h0]
   have h1:0<val l:=by
    rcases Nat.eq_zero_or_pos (val l) with h2 | h2
    ·rw[hp.1 h2] at hN
     exact absurd hN h0
    ·exact h2
   cases neg with
   | true=>exact cmp_neg (show -(val l:Int)<0 by omega)
   | false=>exact cmp_pos (show (0:Int)<(val l:Int) by omega)
 rw[hz,←hN]
 obtain ⟨wa,hwa⟩:∃wa,wa=w.alloc (.cells #[.bool neg,.slice ao N c] 45):=⟨_,rfl⟩
 obtain ⟨ba,hba⟩:∃ba,ba=w.heap.size:=⟨_,rfl⟩
 have hal:Below w.heap.size w wa:=by rw[hwa]; exact (ZR _ w).alloc (Nat.le_refl _) _
 have hblk:wa.heap[ba]?=some (.cells #[.bool neg,.slice ao N c] 45 (0,0)):=by rw[hwa,hba]; exact ZW w _
 have x0:=ZI hblk 0
 have x1:=ZI hblk 1
 simp at x0 x1
 have HAL:=ZH hal
 have HW:=ZH (ZN hwa hba)
 clear h hm hn hs hp hN hz hal hblk hwa hba hk
 go_enter Tryz.func85,Tryz.ntmps85
 go_upto_region 1 with fail
 rw[←HW.out.1,←HW.out.2]
 clear HW
 by_cases h0:N=0
 ·subst h0
  go_wp2_with fail
  go_ret
  exact ⟨rfl,HAL.out⟩
 ·have e1:((N:Int)==0)=false:=ZQ.2 (by omega)
  have HF:=ZH h0
  clear h0
  cases neg with
  | true=>
   go_wp2_with fail
   go_ret
   exact ⟨rfl,HAL.out⟩
  | false=>
   go_wp2_with fail
   go_ret
   exact ⟨rfl,HAL.out⟩
theorem int_neg {neg:Bool} {l:List Nat}:int (!neg) l = -int neg l:=by unfold int; cases neg<;>simp
theorem Neg_any {w:World} {v:Value} {z:Int} {k:Nat} (h:IntIn w v z k):Calls Tryz.prog 134 #[v] w fun e w'=>∃v',e=.returned v'∧IntIn w' v' (-z) k∧Below w.heap.size w w':=by
 obtain ⟨neg,ao,c,l,rfl,hm,hn,hs,rfl,hk,hc1,hc2⟩:=int_sign h
 have hp:=norm_pos hn
 obtain ⟨N,hN⟩:∃N,N=l.length:=⟨_,rfl⟩
 obtain ⟨wa,hwa⟩:∃wa,wa=(w.alloc (.cells #[.bool neg,.slice ao N c] 45)).alloc (.cells #[.bool false,.slice none 0 0] 45):=⟨_,rfl⟩
 obtain ⟨ba,hba⟩:∃ba,ba=w.heap.size:=⟨_,rfl⟩
 obtain ⟨bb,hbb⟩:∃bb,bb=w.heap.size+1:=⟨_,rfl⟩
 have hal:Below w.heap.size w wa:=by rw[hwa]; exact ((ZR _ w).alloc (Nat.le_refl _) _).alloc (by simp) _
 obtain ⟨k1,k2⟩:=two_made w #[.bool neg,.slice ao N c] #[.bool false,.slice none 0 0] 45 45
 rw[←hwa,←hba] at k1
 rw[←hwa,←hbb] at k2
 have x0:=ZI k1 0
 have x1:=ZI k1 1
 have y0:=ZI k2 0
 have y1:=ZI k2 1
 have f0:=ZF k2 0
 have f1:=ZF k2 1
 simp at x0 x1 y0 y1
 have hne:¬ba=bb:=by omega
 have hb2:∀a b:Value,Below w.heap.size w ((wa.setCell ⟨bb,0,none⟩ a).setCell ⟨bb,1,none⟩ b):=fun a b=>(hal.setCell (show w.heap.size≤bb by omega) a).setCell (show w.heap.size≤bb by omega) b
 have hfin:∀b:Bool,b=(!neg&&decide (0<N))→∀w',Below w.heap.size w w'→IntIn w' (.agg #[.bool b,.slice ao N c]) (-int neg l) k:=fun b hb w' hw=>by
  have:=int_made (neg:=!neg) (b:=b) hm (Nat.le_refl _) (by rw[List.take_length]; exact hn) (by rw[List.take_length]) hw (by rw[←hN]; exact hb)
  rw[int_neg,←hN] at this
  exact this.more (by omega)
 have HFIN:=ZH hfin
 have HB2:=ZH hb2
 have HW:=ZH (ZN hwa (ZN hba hbb))
 rw[←hN] at hc1⊢
 clear h hm hn hs hp hN hal hk hfin hb2 k1 k2 hwa hba hbb
 go_enter Tryz.func134,Tryz.ntmps134
 go_upto_region 1 with fail
 rw[←HW.out.1,←HW.out.2.2,←HW.out.2.1]
 clear HW
 by_cases h0:N=0
 ·subst h0
  cases neg with
  | true=>
   go_wp2_with fail
   exact bodyPost_ret (v:=.agg #[.bool false,.slice ao 0 c]) (by simp[results,Tryz.results134,go_sem,y0,y1]) rfl ⟨_,rfl,HFIN.out _ rfl _ (HB2.out _ _),HB2.out _ _⟩
  | false=>
   go_wp2_with fail
   exact bodyPost_ret (v:=.agg #[.bool false,.slice ao 0 c]) (by simp[results,Tryz.results134,go_sem,y0,y1]) rfl ⟨_,rfl,HFIN.out _ rfl _ (HB2.out _ _),HB2.out _ _⟩
 ·have e1:((0:Int)<(N:Int))=True:=eq_true (by omega)
  have HP:=ZH (show 0<N by omega)
  clear h0
  cases neg with
  | true=>
   go_wp2_with fail
   exact bodyPost_ret (v:=.agg #[.bool false,.slice ao N c]) (by simp[results,Tryz.results134,go_sem,y0,y1]) rfl ⟨_,rfl,HFIN.out _ rfl _ (HB2.out _ _),HB2.out _ _⟩
  | false=>
   go_wp2_with fail
   exact bodyPost_ret (v:=.agg #[.bool true,.slice ao N c]) (by have:=HP.out; simp[results,Tryz.results134,go_sem,y0,y1,this]) rfl ⟨_,rfl,HFIN.out _ (by rw[ZT HP.out]; rfl) _ (HB2.out _ _),HB2.out _ _⟩
theorem neg_pos {neg:Bool} {l:List Nat} (hn:Norm l) (hs:l = []→neg=false) (h:neg=true):0<val l:=by
 rcases Nat.eq_zero_or_pos (val l) with h2 | h2
 ·rw[hs ((norm_pos hn).1 h2)] at h
  cases h
 ·exact h2
theorem cmp_turn (x y:Int):cmpI (-x) (-y)=cmpI y x:=by
 unfold cmpI
 by_cases h1:x<y
 ·rw[if_neg (by omega),if_pos (by omega),if_neg (by omega),if_pos (by omega)]
 ·by_cases h2:y<x
  ·rw[if_pos (by omega),if_pos h2]
  ·rw[if_neg (by omega),if_neg (by omega),if_neg h2,if_neg h1]
theorem cmp_less {x y:Int} (h:x<y):cmpI x y = -1:=by unfold cmpI; rw[if_pos h]
theorem cmp_more {x y:Int} (h:y<x):cmpI x y=1:=by unfold cmpI; rw[if_neg (by omega),if_pos h]
theorem Compare_any {w:World} {va vb:Value} {x y:Int} {k m:Nat} (ha:IntIn w va x k) (hb:IntIn w vb y m):Calls Tryz.prog 106 #[va,vb] w fun e w'=>e=.returned (.int .i64 (cmpI x y))∧Below w.heap.size w w':=by
 obtain ⟨na,ao,c,a,rfl,hma,hna,hsa,rfl,-,hc1,hc2⟩:=int_sign ha
 obtain ⟨nb,bo,c',b,rfl,hmb,hnb,hsb,rfl,-,hc3,hc4⟩:=int_sign hb
 have hpa:=neg_pos hna hsa
 have hpb:=neg_pos hnb hsb
 obtain ⟨N,hN⟩:∃N,N=a.length:=⟨_,rfl⟩
 obtain ⟨M,hM⟩:∃M,M=b.length:=⟨_,rfl⟩
 obtain ⟨wa,hwa⟩:∃wa,wa=(w.alloc (.cells #[.bool na,.slice ao N c] 45)).alloc (.cells #[.bool nb,.slice bo M c'] 45):=⟨_,rfl⟩
 obtain ⟨ba,hba⟩:∃ba,ba=w.heap.size:=⟨_,rfl⟩
 obtain ⟨bb,hbb⟩:∃bb,bb=w.heap.size+1:=⟨_,rfl⟩
 have hal:Below w.heap.size w wa:=by rw[hwa]; exact ((ZR _ w).alloc (Nat.le_refl _) _).alloc (by simp) _
 obtain ⟨k1,k2⟩:=two_made w #[.bool na,.slice ao N c] #[.bool nb,.slice bo M c'] 45 45
 rw[←hwa,←hba] at k1
 rw[←hwa,←hbb] at k2
 have x0:=ZI k1 0
 have x1:=ZI k1 1
 have y0:=ZI k2 0
 have y1:=ZI k2 1
 simp at x0 x1 y0 y1
 have hma':=hma.below hal
 have hmb':=hmb.below hal
 rw[←hN] at hma' hc1⊢
 rw[←hM] at hmb' hc3⊢
 have HO1:=ZH (order_any hma' hmb' hna hnb)
 have HO2:=ZH (order_any hmb' hma' hnb hna)
 have HAL:=ZH hal
 have HP:=ZH (ZN hpa hpb)
 have HW:=ZH (ZN hwa (ZN hba hbb))
 clear ha hb hma hmb hna hnb hsa hsb hpa hpb hN hM hal k1 k2 hwa hba hbb hma' hmb'
 go_enter Tryz.func106,Tryz.ntmps106
 go_upto_region 1 with fail
 rw[←HW.out.1,←HW.out.2.2,←HW.out.2.1]
 clear HW
 cases na with
 | true=>
  cases nb with
  | true=>
   have hc:=cmp_turn (val a:Int) (val b:Int)
   have HC:=ZH hc
   clear hc
   go_wp2_with fail
   refine HO2.out.mono ?_
   rintro e w1 ⟨rfl,hb1⟩
   have HB:=ZH (HAL.out.trans (hb1.mono HAL.out.size))
   clear hb1
   go_wp2_with fail
   go_ret
   exact ⟨by show Ending.returned (.int .i64 (cmpI (val b) (val a)))=_; rw[←HC.out]; rfl,HB.out⟩
  | false=>
   have hc:cmpI (int true a) (int false b) = -1:=cmp_less (show -(val a:Int)<(val b:Int) by have:=HP.out.1 rfl; omega)
   have HC:=ZH hc
   clear hc
   go_wp2_with fail
   go_ret
   exact ⟨by rw[HC.out]; rfl,HAL.out⟩
 | false=>
  cases nb with
  | true=>
   have hc:cmpI (int false a) (int true b)=1:=cmp_more (show -(val b:Int)<(val a:Int) by have:=HP.out.2 rfl; omega)
   have HC:=ZH hc
   clear hc
   go_wp2_with fail
   go_ret
   exact ⟨by rw[HC.out]; rfl,HAL.out⟩
  | false=>
   go_wp2_with fail
   refine HO1.out.mono ?_
   rintro e w1 ⟨rfl,hb1⟩
   have HB:=ZH (HAL.out.trans (hb1.mono HAL.out.size))
   clear hb1
   go_wp2_with fail
   go_ret
   exact ⟨rfl,HB.out⟩
set_option maxHeartbeats 4000000
theorem plus_ge {w:World} {va vb:Value} {a b:List Nat} (ha:MagIn w va a) (hb:MagIn w vb b) (hl:b.length≤a.length) (hk:a.length≤1000000) :
  Calls Tryz.prog 131 #[va,vb] w fun e w'=>∃v r,e=.returned v∧MagIn w' v r∧val r=val a+val b∧r.length=a.length+1∧Below w.heap.size w w':=by
 obtain ⟨ao,c,rfl,hc1,hc2,oa,hca⟩:=ha
 obtain ⟨bo,c',rfl,hc3,hc4,ob,hcb⟩:=hb
 have HA:=ZH hca
 have HB:=ZH hcb
 have HOA:=ZH (ZN oa ob)
 unfold maxLen at hc2 hc4
 obtain ⟨N,hN⟩:∃N,N=a.length:=⟨_,rfl⟩
 obtain ⟨M,hM⟩:∃M,M=b.length:=⟨_,rfl⟩
 rw[←hN] at hc1 HA hk hl⊢
 rw[←hM] at hc3 HB hl⊢
 have HN:=ZH (ZN hN hM)
 have hmk:=make_dig (N+1) (by omega) w
 rw[show ((N+1:Nat):Int)=(N:Int)+1 by omega] at hmk
 have e0:((N:Int)<(M:Int))=False:=eq_false (by omega)
 clear hca hcb oa ob hN hM
 go_enter Tryz.func131,Tryz.ntmps131
 go_upto_region 4 with fail
 obtain ⟨g,hg⟩:∃g,g=w.heap.size:=⟨_,rfl⟩
 have hrow:=dig_made w (N+1)
 have hal:Below w.heap.size w (w.alloc (.cells (madeCells #[.int .u32 0] (N+1)) 145)):=(ZR _ w).alloc (Nat.le_refl _) _
 rw[←hg] at hrow
 rw[←hg]
 have HGE:=ZH (show w.heap.size≤g by omega)
 have H0:=ZH (ZN hal hrow)
 generalize w.alloc (.cells (madeCells #[.int .u32 0] (N+1)) 145)=wa at *
 clear hmk hg hal hrow
 go_wp2_with fail
 go_loopw [6,22] (fun cr i wr=>∃(k cy:Nat) (o:List Nat),k≤N∧i=.int .i64 k∧cr=.int .u64 cy∧cy≤1∧Hid (o.length=N+1∧DigRow wr g o∧Ok o∧val (o.take k)+pw k*cy=val (a.take k)+val (b.take k))∧Hid (Below w.heap.size w wr)) (fun _ i _=>N-(intOf i).toNat)
 case atStart=>exact ⟨0,0,List.replicate (N+1) 0,Nat.zero_le _,rfl,rfl,by omega,ZH ⟨by simp,H0.out.2,ok_zero _,by simp[val]⟩,ZH H0.out.1⟩
 case round=>
  obtain ⟨k,cy,o,hkN,rfl,rfl,hcy,ho,hbw⟩:=hrel
  by_cases hlt:k<N
  ·obtain ⟨ba,offa,rfl,hlta,hcella⟩:=HA.out (by omega)
   have x0:=(hbw.out.cell (p:=⟨ba,offa+k,none⟩) hlta).trans (hcella k hlt)
   obtain ⟨da,hda⟩:∃d,d=a.getD k 0:=⟨_,rfl⟩
   have hda2:da<4294967296:=by rw[hda]; exact HOA.out.1.at k
   rw[←hda] at x0
   unfold u32V at x0
   have HDA:=ZH hda
   have g0:=ho.out.2.1.at (i:=k) (by rw[ho.out.1]; omega)
   have g1:=World.rowIs.frozen ho.out.2.1 k
   have hi0:(0:Int)≤(k:Int):=by omega
   have hi1:(k:Int)<(N:Int):=by omega
   have hi2:(k:Int)<(N:Int)+1:=by omega
   clear hcella hda
   by_cases hM:k<M
   ·obtain ⟨bb,offb,rfl,hltb,hcellb⟩:=HB.out (by omega)
    have x1:=(hbw.out.cell (p:=⟨bb,offb+k,none⟩) hltb).trans (hcellb k hM)
    obtain ⟨db,hdb⟩:∃d,d=b.getD k 0:=⟨_,rfl⟩
    have hdb2:db<4294967296:=by rw[hdb]; exact HOA.out.2.at k
    rw[←hdb] at x1
    unfold u32V at x1
    have HDB:=ZH hdb
    have e1:((k:Int)<(M:Int))=True:=eq_true (by omega)
    clear hcellb hdb
    go_wp2_with fail
    have hv:Value.int .u32 (((cy:Int)+(da:Int)+(db:Int))%4294967296)=u32V ((cy+da+db)%4294967296):=by unfold u32V; congr 1
    have hst:=plus_step (i:=k) (by rw[ho.out.1]; omega) ho.out.2.2.2
    rw[←HDA.out,←HDB.out] at hst
    rw[hv]
    exact ⟨⟨k+1,(cy+da+db)/4294967296,o.set k ((cy+da+db)%4294967296),by omega,by congr 1,by congr 1,by omega,ZH ⟨by rw[List.length_set]; exact ho.out.1,ho.out.2.1.set (by rw[ho.out.1]; omega) _,ho.out.2.2.1.set k (by omega),hst⟩,ZH (hbw.out.setCell HGE.out _)⟩,by simp[intOf]; omega⟩
   ·have e1:((k:Int)<(M:Int))=False:=eq_false (by omega)
    have hdb:b.getD k 0=0:=by rw[List.getD_eq_getElem?_getD,List.getElem?_eq_none (by rw[←HN.out.2]; omega)]; rfl
    have HDB:=ZH hdb
    clear hdb
    go_wp2_with fail
    have hv:Value.int .u32 (((cy:Int)+(da:Int))%4294967296)=u32V ((cy+da)%4294967296):=by unfold u32V; congr 1
    have hst:=plus_step (i:=k) (by rw[ho.out.1]; omega) ho.out.2.2.2
    rw[←HDA.out,HDB.out,Nat.add_zero] at hst
    rw[hv]
    exact ⟨⟨k+1,(cy+da)/4294967296,o.set k ((cy+da)%4294967296),by omega,by congr 1,by congr 1,by omega,ZH ⟨by rw[List.length_set]; exact ho.out.1,ho.out.2.1.set (by rw[ho.out.1]; omega) _,ho.out.2.2.1.set k (by omega),hst⟩,ZH (hbw.out.setCell HGE.out _)⟩,by simp[intOf]; omega⟩
  ·obtain rfl:k=N:=by omega
   have g0:=ho.out.2.1.at (i:=k) (by rw[ho.out.1]; omega)
   have g1:=World.rowIs.frozen ho.out.2.1 k
   have hi0:(0:Int)≤(k:Int):=by omega
   have hi2:(k:Int)<(k:Int)+1:=by omega
   go_wp2_with fail
   go_ret
   have hlen:(o.set k cy).length=k+1:=by rw[List.length_set]; exact ho.out.1
   have hm:=(ho.out.2.1.set (i:=k) (by rw[ho.out.1]; omega) cy).mag (ho.out.2.2.1.set k (by omega)) (by rw[hlen]; unfold maxLen; omega)
   rw[hlen] at hm
   refine ⟨_,_,rfl,hm,?_,hlen,hbw.out.setCell HGE.out _⟩
   have h1:=set_val (l:=o) (k:=k) (d:=cy) (by rw[ho.out.1]; omega)
   rw[List.take_of_length_le (by rw[hlen]; exact Nat.le_refl _)] at h1
   rw[h1,ho.out.2.2.2,List.take_of_length_le (by rw[←HN.out.1]; exact Nat.le_refl _),List.take_of_length_le (by rw[←HN.out.2]; exact hl)]
theorem plus_lt {w:World} {va vb:Value} {a b:List Nat} (ha:MagIn w va a) (hb:MagIn w vb b) (hl:b.length<a.length) (hk:a.length≤1000000) :
  Calls Tryz.prog 131 #[vb,va] w fun e w'=>∃v r,e=.returned v∧MagIn w' v r∧val r=val a+val b∧r.length=a.length+1∧Below w.heap.size w w':=by
 obtain ⟨ao,c,rfl,hc1,hc2,oa,hca⟩:=ha
 obtain ⟨bo,c',rfl,hc3,hc4,ob,hcb⟩:=hb
 have HA:=ZH hca
 have HB:=ZH hcb
 have HOA:=ZH (ZN oa ob)
 unfold maxLen at hc2 hc4
 obtain ⟨N,hN⟩:∃N,N=a.length:=⟨_,rfl⟩
 obtain ⟨M,hM⟩:∃M,M=b.length:=⟨_,rfl⟩
 rw[←hN] at hc1 HA hk hl⊢
 rw[←hM] at hc3 HB hl⊢
 have HN:=ZH (ZN hN hM)
 have hmk:=make_dig (N+1) (by omega) w
 rw[show ((N+1:Nat):Int)=(N:Int)+1 by omega] at hmk
 have e0:((M:Int)<(N:Int))=True:=eq_true (by omega)
 clear hca hcb oa ob hN hM
 go_enter Tryz.func131,Tryz.ntmps131
 go_upto_region 4 with fail
 obtain ⟨g,hg⟩:∃g,g=w.heap.size:=⟨_,rfl⟩
 have hrow:=dig_made w (N+1)
 have hal:Below w.heap.size w (w.alloc (.cells (madeCells #[.int .u32 0] (N+1)) 145)):=(ZR _ w).alloc (Nat.le_refl _) _
 rw[←hg] at hrow
 rw[←hg]
 have HGE:=ZH (show w.heap.size≤g by omega)
 have H0:=ZH (ZN hal hrow)
 generalize w.alloc (.cells (madeCells #[.int .u32 0] (N+1)) 145)=wa at *
 clear hmk hg hal hrow
 go_wp2_with fail
 go_loopw [6,22] (fun cr i wr=>∃(k cy:Nat) (o:List Nat),k≤N∧i=.int .i64 k∧cr=.int .u64 cy∧cy≤1∧Hid (o.length=N+1∧DigRow wr g o∧Ok o∧val (o.take k)+pw k*cy=val (a.take k)+val (b.take k))∧Hid (Below w.heap.size w wr)) (fun _ i _=>N-(intOf i).toNat)
 case atStart=>exact ⟨0,0,List.replicate (N+1) 0,Nat.zero_le _,rfl,rfl,by omega,ZH ⟨by simp,H0.out.2,ok_zero _,by simp[val]⟩,ZH H0.out.1⟩
 case round=>
  obtain ⟨k,cy,o,hkN,rfl,rfl,hcy,ho,hbw⟩:=hrel
  by_cases hlt:k<N
  ·obtain ⟨ba,offa,rfl,hlta,hcella⟩:=HA.out (by omega)
   have x0:=(hbw.out.cell (p:=⟨ba,offa+k,none⟩) hlta).trans (hcella k hlt)
   obtain ⟨da,hda⟩:∃d,d=a.getD k 0:=⟨_,rfl⟩
   have hda2:da<4294967296:=by rw[hda]; exact HOA.out.1.at k
   rw[←hda] at x0
   unfold u32V at x0
   have HDA:=ZH hda
   have g0:=ho.out.2.1.at (i:=k) (by rw[ho.out.1]; omega)
   have g1:=World.rowIs.frozen ho.out.2.1 k
   have hi0:(0:Int)≤(k:Int):=by omega
   have hi1:(k:Int)<(N:Int):=by omega
   have hi2:(k:Int)<(N:Int)+1:=by omega
   clear hcella hda
   by_cases hM:k<M
   ·obtain ⟨bb,offb,rfl,hltb,hcellb⟩:=HB.out (by omega)
    have x1:=(hbw.out.cell (p:=⟨bb,offb+k,none⟩) hltb).trans (hcellb k hM)
    obtain ⟨db,hdb⟩:∃d,d=b.getD k 0:=⟨_,rfl⟩
    have hdb2:db<4294967296:=by rw[hdb]; exact HOA.out.2.at k
    rw[←hdb] at x1
    unfold u32V at x1
    have HDB:=ZH hdb
    have e1:((k:Int)<(M:Int))=True:=eq_true (by omega)
    clear hcellb hdb
    go_wp2_with fail
    have hv:Value.int .u32 (((cy:Int)+(da:Int)+(db:Int))%4294967296)=u32V ((cy+da+db)%4294967296):=by unfold u32V; congr 1
    have hst:=plus_step (i:=k) (by rw[ho.out.1]; omega) ho.out.2.2.2
    rw[←HDA.out,←HDB.out] at hst
    rw[hv]
    exact ⟨⟨k+1,(cy+da+db)/4294967296,o.set k ((cy+da+db)%4294967296),by omega,by congr 1,by congr 1,by omega,ZH ⟨by rw[List.length_set]; exact ho.out.1,ho.out.2.1.set (by rw[ho.out.1]; omega) _,ho.out.2.2.1.set k (by omega),hst⟩,ZH (hbw.out.setCell HGE.out _)⟩,by simp[intOf]; omega⟩
   ·have e1:((k:Int)<(M:Int))=False:=eq_false (by omega)
    have hdb:b.getD k 0=0:=by rw[List.getD_eq_getElem?_getD,List.getElem?_eq_none (by rw[←HN.out.2]; omega)]; rfl
    have HDB:=ZH hdb
    clear hdb
    go_wp2_with fail
    have hv:Value.int .u32 (((cy:Int)+(da:Int))%4294967296)=u32V ((cy+da)%4294967296):=by unfold u32V; congr 1
    have hst:=plus_step (i:=k) (by rw[ho.out.1]; omega) ho.out.2.2.2
    rw[←HDA.out,HDB.out,Nat.add_zero] at hst
    rw[hv]
    exact ⟨⟨k+1,(cy+da)/4294967296,o.set k ((cy+da)%4294967296),by omega,by congr 1,by congr 1,by omega,ZH ⟨by rw[List.length_set]; exact ho.out.1,ho.out.2.1.set (by rw[ho.out.1]; omega) _,ho.out.2.2.1.set k (by omega),hst⟩,ZH (hbw.out.setCell HGE.out _)⟩,by simp[intOf]; omega⟩
  ·obtain rfl:k=N:=by omega
   have g0:=ho.out.2.1.at (i:=k) (by rw[ho.out.1]; omega)
   have g1:=World.rowIs.frozen ho.out.2.1 k
   have hi0:(0:Int)≤(k:Int):=by omega
   have hi2:(k:Int)<(k:Int)+1:=by omega
   go_wp2_with fail
   go_ret
   have hlen:(o.set k cy).length=k+1:=by rw[List.length_set]; exact ho.out.1
   have hm:=(ho.out.2.1.set (i:=k) (by rw[ho.out.1]; omega) cy).mag (ho.out.2.2.1.set k (by omega)) (by rw[hlen]; unfold maxLen; omega)
   rw[hlen] at hm
   refine ⟨_,_,rfl,hm,?_,hlen,hbw.out.setCell HGE.out _⟩
   have h1:=set_val (l:=o) (k:=k) (d:=cy) (by rw[ho.out.1]; omega)
   rw[List.take_of_length_le (by rw[hlen]; exact Nat.le_refl _)] at h1
   rw[h1,ho.out.2.2.2,List.take_of_length_le (by rw[←HN.out.1]; exact Nat.le_refl _),List.take_of_length_le (by rw[←HN.out.2]; omega)]
theorem plus_any {w:World} {va vb:Value} {a b:List Nat} (ha:MagIn w va a) (hb:MagIn w vb b) {k:Nat} (hk:a.length≤k) (hk2:b.length≤k) (hk3:k≤1000000) :
  Calls Tryz.prog 131 #[va,vb] w fun e w'=>∃v r,e=.returned v∧MagIn w' v r∧val r=val a+val b∧r.length≤k+1∧Below w.heap.size w w':=by
 by_cases h:b.length≤a.length
 ·refine (plus_ge ha hb h (by omega)).mono ?_
  rintro e w' ⟨v,r,h1,h2,h3,h4,h5⟩
  exact ⟨v,r,h1,h2,h3,by omega,h5⟩
 ·refine (plus_lt hb ha (by omega) (by omega)).mono ?_
  rintro e w' ⟨v,r,h1,h2,h3,h4,h5⟩
  exact ⟨v,r,h1,h2,by omega,by omega,h5⟩
theorem borrow_is {d x y c:Nat} (hx:x<4294967296) (hy:y<4294967296) (hc:c≤1) (hd:(d:Int)=((x:Int)-(c:Int)-(y:Int))%4294967296) :
  (((x:Int)-(c:Int)-(y:Int)<0)→d+y+c=x+4294967296*1)∧(¬((x:Int)-(c:Int)-(y:Int)<0)→d+y+c=x+4294967296*0):=by omega
theorem minus_any {w:World} {va vb:Value} {a b:List Nat} (ha:MagIn w va a) (hb:MagIn w vb b) (hab:val b≤val a) (hl:b.length≤a.length) (hk:a.length≤1000000) :
  Calls Tryz.prog 133 #[va,vb] w fun e w'=>∃v r,e=.returned v∧MagIn w' v r∧val r+val b=val a∧r.length=a.length∧Below w.heap.size w w':=by
 obtain ⟨ao,c,rfl,hc1,hc2,oa,hca⟩:=ha
 obtain ⟨bo,c',rfl,hc3,hc4,ob,hcb⟩:=hb
 have HA:=ZH hca
 have HB:=ZH hcb
 have HOA:=ZH (ZN oa (ZN ob hab))
 unfold maxLen at hc2 hc4
 obtain ⟨N,hN⟩:∃N,N=a.length:=⟨_,rfl⟩
 obtain ⟨M,hM⟩:∃M,M=b.length:=⟨_,rfl⟩
 rw[←hN] at hc1 HA hk hl⊢
 rw[←hM] at hc3 HB hl⊢
 have HN:=ZH (ZN hN hM)
 have hmk:=make_dig N (by omega) w
 clear hca hcb oa ob hN hM hab
 go_enter Tryz.func133,Tryz.ntmps133
 go_upto_region 2 with fail
 obtain ⟨g,hg⟩:∃g,g=w.heap.size:=⟨_,rfl⟩
 have hrow:=dig_made w N
 have hal:Below w.heap.size w (w.alloc (.cells (madeCells #[.int .u32 0] N) 145)):=(ZR _ w).alloc (Nat.le_refl _) _
 rw[←hg] at hrow
 rw[←hg]
 have HGE:=ZH (show w.heap.size≤g by omega)
 have H0:=ZH (ZN hal hrow)
 generalize w.alloc (.cells (madeCells #[.int .u32 0] N) 145)=wa at *
 clear hmk hg hal hrow
 go_wp2_with fail
 go_loopw [6,15] (fun cr i wr=>∃(k cy:Nat) (o:List Nat),k≤N∧i=.int .i64 k∧cr=.int .i64 cy∧cy≤1∧Hid (o.length=N∧DigRow wr g o∧Ok o∧val (o.take k)+val (b.take k)=val (a.take k)+pw k*cy)∧Hid (Below w.heap.size w wr)) (fun _ i _=>N-(intOf i).toNat)
 case atStart=>exact ⟨0,0,List.replicate N 0,Nat.zero_le _,rfl,rfl,by omega,ZH ⟨by simp,H0.out.2,ok_zero _,by simp[val]⟩,ZH H0.out.1⟩
 case round=>
  obtain ⟨k,cy,o,hkN,rfl,rfl,hcy,ho,hbw⟩:=hrel
  by_cases hlt:k<N
  ·obtain ⟨ba,offa,rfl,hlta,hcella⟩:=HA.out (by omega)
   have x0:=(hbw.out.cell (p:=⟨ba,offa+k,none⟩) hlta).trans (hcella k hlt)
   obtain ⟨da,hda⟩:∃d,d=a.getD k 0:=⟨_,rfl⟩
   have hda2:da<4294967296:=by rw[hda]; exact HOA.out.1.at k
   rw[←hda] at x0
   unfold u32V at x0
   have HDA:=ZH hda
   have g0:=ho.out.2.1.at (i:=k) (by rw[ho.out.1]; omega)
   have g1:=World.rowIs.frozen ho.out.2.1 k
   have hi0:(0:Int)≤(k:Int):=by omega
   have hi1:(k:Int)<(N:Int):=by omega
   clear hcella hda
   by_cases hM:k<M
   ·obtain ⟨bb,offb,rfl,hltb,hcellb⟩:=HB.out (by omega)
    have x1:=(hbw.out.cell (p:=⟨bb,offb+k,none⟩) hltb).trans (hcellb k hM)
    obtain ⟨db,hdb⟩:∃d,d=b.getD k 0:=⟨_,rfl⟩
    have hdb2:db<4294967296:=by rw[hdb]; exact HOA.out.2.1.at k
    rw[←hdb] at x1
    unfold u32V at x1
    have HDB:=ZH hdb
    have e1:((k:Int)<(M:Int))=True:=eq_true (by omega)
    obtain ⟨d,hd⟩:∃d:Nat,(d:Int)=((da:Int)-(cy:Int)-(db:Int))%4294967296:=⟨(((da:Int)-(cy:Int)-(db:Int))%4294967296).toNat,by omega⟩
    have hd2:d<4294967296:=by omega
    have hbr:=borrow_is hda2 hdb2 hcy hd
    have HBR:=ZH hbr
    have HD:=ZH hd
    clear hcellb hdb hbr hd
    by_cases hneg:(da:Int)-(cy:Int)-(db:Int)<0
    ·have e2:((da:Int)-(cy:Int)-(db:Int)<0)=True:=eq_true hneg
     have hst:=minus_step (i:=k) (by rw[ho.out.1]; omega) ho.out.2.2.2 (d:=d) (c2:=1) (by rw[←HDA.out,←HDB.out]; exact HBR.out.1 hneg)
     have HST:=ZH hst
     clear hst hneg
     go_wp2_with fail
     have hv:Value.int .u32 (((da:Int)-(cy:Int)-(db:Int))%4294967296)=u32V d:=by unfold u32V; rw[HD.out]
     rw[hv]
     exact ⟨⟨k+1,1,o.set k d,by omega,by congr 1,rfl,by omega,ZH ⟨by rw[List.length_set]; exact ho.out.1,ho.out.2.1.set (by rw[ho.out.1]; omega) d,ho.out.2.2.1.set k hd2,HST.out⟩,ZH (hbw.out.setCell HGE.out _)⟩,by simp[intOf]; omega⟩
    ·have e2:((da:Int)-(cy:Int)-(db:Int)<0)=False:=eq_false hneg
     have hst:=minus_step (i:=k) (by rw[ho.out.1]; omega) ho.out.2.2.2 (d:=d) (c2:=0) (by rw[←HDA.out,←HDB.out]; exact HBR.out.2 hneg)
     have HST:=ZH hst
     clear hst hneg
     go_wp2_with fail
     have hv:Value.int .u32 (((da:Int)-(cy:Int)-(db:Int))%4294967296)=u32V d:=by unfold u32V; rw[HD.out]
     rw[hv]
     exact ⟨⟨k+1,0,o.set k d,by omega,by congr 1,rfl,by omega,ZH ⟨by rw[List.length_set]; exact ho.out.1,ho.out.2.1.set (by rw[ho.out.1]; omega) d,ho.out.2.2.1.set k hd2,HST.out⟩,ZH (hbw.out.setCell HGE.out _)⟩,by simp[intOf]; omega⟩
   ·have e1:((k:Int)<(M:Int))=False:=eq_false (by omega)
    have hdb:b.getD k 0=0:=by rw[List.getD_eq_getElem?_getD,List.getElem?_eq_none (by rw[←HN.out.2]; omega)]; rfl
    have HDB:=ZH hdb
    obtain ⟨d,hd⟩:∃d:Nat,(d:Int)=((da:Int)-(cy:Int))%4294967296:=⟨(((da:Int)-(cy:Int))%4294967296).toNat,by omega⟩
    have hd2:d<4294967296:=by omega
    have hbr:=borrow_is (y:=0) hda2 (by omega) hcy (by rw[hd]; simp)
    have HBR:=ZH hbr
    have HD:=ZH hd
    clear hdb hbr hd
    by_cases hneg:(da:Int)-(cy:Int)<0
    ·have e2:((da:Int)-(cy:Int)<0)=True:=eq_true hneg
     have hst:=minus_step (i:=k) (by rw[ho.out.1]; omega) ho.out.2.2.2 (d:=d) (c2:=1) (by rw[←HDA.out,HDB.out]; exact HBR.out.1 (by simpa using hneg))
     have HST:=ZH hst
     clear hst hneg
     go_wp2_with fail
     have hv:Value.int .u32 (((da:Int)-(cy:Int))%4294967296)=u32V d:=by unfold u32V; rw[HD.out]
     rw[hv]
     exact ⟨⟨k+1,1,o.set k d,by omega,by congr 1,rfl,by omega,ZH ⟨by rw[List.length_set]; exact ho.out.1,ho.out.2.1.set (by rw[ho.out.1]; omega) d,ho.out.2.2.1.set k hd2,HST.out⟩,ZH (hbw.out.setCell HGE.out _)⟩,by simp[intOf]; omega⟩
    ·have e2:((da:Int)-(cy:Int)<0)=False:=eq_false hneg
     have hst:=minus_step (i:=k) (by rw[ho.out.1]; omega) ho.out.2.2.2 (d:=d) (c2:=0) (by rw[←HDA.out,HDB.out]; exact HBR.out.2 (by simpa using hneg))
     have HST:=ZH hst
     clear hst hneg
     go_wp2_with fail
     have hv:Value.int .u32 (((da:Int)-(cy:Int))%4294967296)=u32V d:=by unfold u32V; rw[HD.out]
     rw[hv]
     exact ⟨⟨k+1,0,o.set k d,by omega,by congr 1,rfl,by omega,ZH ⟨by rw[List.length_set]; exact ho.out.1,ho.out.2.1.set (by rw[ho.out.1]; omega) d,ho.out.2.2.1.set k hd2,HST.out⟩,ZH (hbw.out.setCell HGE.out _)⟩,by simp[intOf]; omega⟩
  ·obtain rfl:k=N:=by omega
   go_wp2_with fail
   go_ret
   have hm:=ho.out.2.1.mag ho.out.2.2.1 (by rw[ho.out.1]; unfold maxLen; omega)
   rw[ho.out.1] at hm
   refine ⟨_,_,rfl,hm,?_,ho.out.1,hbw.out⟩
   have h1:=ho.out.2.2.2
   have h2:=val_lt ho.out.2.2.1
   rw[List.take_of_length_le (by rw[ho.out.1]; exact Nat.le_refl _),List.take_of_length_le (l:=a) (by rw[←HN.out.1]; exact Nat.le_refl _),List.take_of_length_le (l:=b) (by rw[←HN.out.2]; exact hl)] at h1
   rw[ho.out.1] at h2
   have h3:=HOA.out.2.2
   have h4:cy=0∨cy=1:=by omega
   rcases h4 with rfl | rfl
   ·omega
   ·omega
theorem frozen_below {w w':World} {B:Nat} (hb:Below B w w') {p:Addr} (hp:p.block<B) (h:w.frozen? p=false):w'.frozen? p=false:=(hb.frozen hp).trans h
theorem MagIn.store {w:World} {bc:Nat} {t:TypeId} {v:Value} {l:List Nat} (h:MagIn w v l) (hb:w.heap[bc]?=some (.cells #[.bool false,.slice none 0 0] t (0,0))) (u1 u2:Value):MagIn ((w.setCell ⟨bc,0,none⟩ u1).setCell ⟨bc,1,none⟩ u2) v l:=by
  obtain ⟨ao,c,e,h1,h2,h3,h4⟩:=h
  refine ⟨ao,c,e,h1,h2,h3,fun h0=>?_⟩
  obtain ⟨b,off,e2,hlt,hc⟩:=h4 h0
  have hne:b≠bc:=by
    rintro rfl
    have:=hc 0 h0
    rw[ZI hb] at this
    match off with
    | 0=>simp[u32V] at this
    | 1=>simp[u32V] at this
    | n+2=>simp at this
  refine ⟨b,off,e2,by simpa[World.setCell] using hlt,fun j hj=>?_⟩
  rw[←hc j hj]
  exact World.cell?_of_block (a:=⟨b,off+j,none⟩) ((Below.heap_setCell _ _ _ _ hne).trans (Below.heap_setCell _ _ _ _ hne))
theorem IntIn.store {w:World} {bc:Nat} {t:TypeId} {v:Value} {z:Int} {k:Nat} (h:IntIn w v z k) (hb:w.heap[bc]?=some (.cells #[.bool false,.slice none 0 0] t (0,0))) (u1 u2:Value):IntIn ((w.setCell ⟨bc,0,none⟩ u1).setCell ⟨bc,1,none⟩ u2) v z k:=by
  obtain ⟨neg,ms,l,e,h1,h2⟩:=h
  exact ⟨neg,ms,l,e,h1.store hb u1 u2,h2⟩
theorem int_add {n:Bool} {a b r:List Nat} (h:val r=val a+val b):int n r=int n a+int n b:=by unfold int; rw[h]; cases n<;>simp<;>omega
theorem int_sub {n:Bool} {a b r:List Nat} (h:val r+val b=val a):int n r=int n a+int (!n) b:=by unfold int; cases n<;>simp<;>omega
theorem Add_any {w:World} {va vb:Value} {x y:Int} {k:Nat} (ha:IntIn w va x k) (hb:IntIn w vb y k) (hk:k≤900000):Calls Tryz.prog 99 #[va,vb] w fun e w'=>∃v,e=.returned v∧IntIn w' v (x+y) (k+1)∧Below w.heap.size w w':=by
  obtain ⟨na,ao,c,a,rfl,hma,hna,hsa,rfl,hka,hc1,hc2⟩:=int_sign ha
  obtain ⟨nb,bo,c',b,rfl,hmb,hnb,hsb,rfl,hkb,hc3,hc4⟩:=int_sign hb
  obtain ⟨N,hN⟩:∃N,N=a.length:=⟨_,rfl⟩
  obtain ⟨M,hM⟩:∃M,M=b.length:=⟨_,rfl⟩
  obtain ⟨wa,hwa⟩:∃wa,wa=((w.alloc (.cells #[.bool na,.slice ao N c] 45)).alloc (.cells #[.bool nb,.slice bo M c'] 45)).alloc (.cells #[.bool false,.slice none 0 0] 45):=⟨_,rfl⟩
  obtain ⟨ba,hba⟩:∃ba,ba=w.heap.size:=⟨_,rfl⟩
  obtain ⟨bb,hbb⟩:∃bb,bb=w.heap.size+1:=⟨_,rfl⟩
  obtain ⟨bc,hbc⟩:∃bc,bc=w.heap.size+2:=⟨_,rfl⟩
  have hal:Below w.heap.size w wa:=by rw[hwa]; exact (((ZR _ w).alloc (Nat.le_refl _) _).alloc (by simp) _).alloc (by simp; omega) _
  obtain ⟨k1,k2,k3⟩:=three_made w #[.bool na,.slice ao N c] #[.bool nb,.slice bo M c'] #[.bool false,.slice none 0 0] 45 45 45
  rw[←hwa,←hba] at k1
  rw[←hwa,←hbb] at k2
  rw[←hwa,←hbc] at k3
  have x0:=ZI k1 0
  have x1:=ZI k1 1
  have y0:=ZI k2 0
  have y1:=ZI k2 1
  have z0:=ZI k3 0
  have z1:=ZI k3 1
  have f0:=ZF k3 0
  have f1:=ZF k3 1
  simp at x0 x1 y0 y1 z0 z1
  have hsz:bc<wa.heap.size:=ZL k3
  have hge:w.heap.size≤bc:=by omega
  have n1:¬ba=bc:=by omega
  have n2:¬bb=bc:=by omega
  have n3:¬bc=ba:=by omega
  have n4:¬bc=bb:=by omega
  have hma':=hma.below hal
  have hmb':=hmb.below hal
  rw[←hN] at hma' hc1⊢
  rw[←hM] at hmb' hc3⊢
  have HM:=ZH (ZN hma' (ZN hmb' (ZN hna hnb)))
  have HAL:=ZH (ZN hal (ZN hge (ZN hsz k3)))
  have HL:=ZH (ZN hka (ZN hkb (ZN hN hM)))
  have HW:=ZH (ZN hwa (ZN hba (ZN hbb hbc)))
  clear ha hb hma hmb hna hnb hsa hsb hN hM hal k1 k2 k3 hwa hba hbb hbc hma' hmb' hsz hge hka hkb
  go_enter Tryz.func99,Tryz.ntmps99
  go_upto_region 1 with fail
  rw[←HW.out.1,←HW.out.2.2.2,←HW.out.2.2.1,←HW.out.2.1]
  clear HW
  by_cases hs:na=nb
  · subst hs
    have e1:(na==na)=true:=by simp
    go_upto_region 2 with fail
    go_region_held3 (fun w'=>w'.cell? ⟨ba,0,none⟩=some (.bool na)∧w'.cell? ⟨ba,1,none⟩=some (.slice ao N c)∧w'.cell? ⟨bb,1,none⟩=some (.slice bo M c')) (go_keep)
      (first
        | (go_at_call 131
           refine (plus_any (HM.out.1.below (ZR _ wa).drew) (HM.out.2.1.below (ZR _ wa).drew) HL.out.1 HL.out.2.1 (by omega)).mono ?_
           rintro e w3 ⟨v3,r,rfl,hm3,hv3,hl3,hb3⟩
           have x0:=ZJ hb3 x0
           have x1:=ZJ hb3 x1
           have y1:=ZJ hb3 y1
           have z0:=ZJ hb3 z0
           have z1:=ZJ hb3 z1
           have f0:=frozen_below hb3 (p:=⟨bc,0,none⟩) HAL.out.2.2.1 f0
           have f1:=frozen_below hb3 (p:=⟨bc,1,none⟩) HAL.out.2.2.1 f1
           have H3:=ZH (ZN hm3 (ZN hv3 (ZN hl3 hb3)))
           clear hm3 hv3 hl3 hb3)
        | (go_at_call 110
           refine (signed_any na H3.out.1).mono ?_
           rintro e w4 ⟨v4,rfl,hi4,hb4⟩
           obtain ⟨s4,a4,c4,l4,rfl,-⟩:=int_sign hi4
           have x0:=ZJ hb4 x0
           have x1:=ZJ hb4 x1
           have y1:=ZJ hb4 y1
           have z0:=ZJ hb4 z0
           have z1:=ZJ hb4 z1
           have f0:=frozen_below hb4 (p:=⟨bc,0,none⟩) (Nat.lt_of_lt_of_le HAL.out.2.2.1 H3.out.2.2.2.size) f0
           have f1:=frozen_below hb4 (p:=⟨bc,1,none⟩) (Nat.lt_of_lt_of_le HAL.out.2.2.1 H3.out.2.2.2.size) f1
           have H4:=ZH (ZN hi4 hb4)
           clear hi4 hb4))
    all_goals
      have hblk:=(H4.out.2.block bc (Nat.lt_of_lt_of_le HAL.out.2.2.1 H3.out.2.2.2.size)).trans ((H3.out.2.2.2.block bc HAL.out.2.2.1).trans HAL.out.2.2.2)
      have hi:=(H4.out.1.store hblk (.bool s4) (.slice a4 l4.length c4)).more (show r.length≤k+1 from H3.out.2.2.1)
      rw[int_add H3.out.2.1] at hi
      have hbf:Below w.heap.size w ((w4.setCell ⟨bc,0,none⟩ (.bool s4)).setCell ⟨bc,1,none⟩ (.slice a4 l4.length c4)):=
        ((((HAL.out.1.drew).trans (H3.out.2.2.2.mono HAL.out.1.size)).trans (H4.out.2.mono (Nat.le_trans HAL.out.1.size H3.out.2.2.2.size))).setCell HAL.out.2.1 _).setCell HAL.out.2.1 _
      have HF:=ZH (ZN hi hbf)
      clear hblk hi hbf
      go_wp2_with fail
      exact bodyPost_ret (v:=.agg #[.bool s4,.slice a4 l4.length c4]) (by simp[results,Tryz.results99,go_sem,z0,z1]) rfl ⟨_,rfl,HF.out⟩
  · have e1:(na==nb)=false:=by simp[hs]
    have hnb:nb = !na:=by cases na<;>cases nb<;>simp_all
    have HO:=ZH (order_any HM.out.1 HM.out.2.1 HM.out.2.2.1 HM.out.2.2.2)
    have hoa:Ok a∧Ok b:=by
      obtain ⟨⟨_,_,_,_,_,h1,_⟩,⟨_,_,_,_,_,h2,_⟩,_⟩:=HM.out
      exact ⟨h1,h2⟩
    have HNB:=ZH (ZN hnb hoa)
    clear hs hnb hoa
    by_cases hle:val b≤val a
    · have e2:((0:Int)≤cmpI (val a:Int) (val b:Int))=True:=eq_true (by
        rcases Nat.lt_or_ge (val b) (val a) with h | h
        · rw[cmp_gt h]; omega
        · rw[cmp_eq (by omega)]; omega)
      have hll:b.length≤a.length:=by
        rcases Nat.lt_or_ge a.length b.length with h | h
        · have:=norm_short HNB.out.2.1 HM.out.2.2.2 h
          omega
        · exact h
      have HLE:=ZH (ZN hle hll)
      clear hle hll
      go_wp2_with fail
      refine HO.out.mono ?_
      rintro e w2 ⟨rfl,hb2⟩
      have x0:=ZJ hb2 x0
      have x1:=ZJ hb2 x1
      have y0:=ZJ hb2 y0
      have y1:=ZJ hb2 y1
      have z0:=ZJ hb2 z0
      have z1:=ZJ hb2 z1
      have f0:=frozen_below hb2 (p:=⟨bc,0,none⟩) HAL.out.2.2.1 f0
      have f1:=frozen_below hb2 (p:=⟨bc,1,none⟩) HAL.out.2.2.1 f1
      have H2:=ZH hb2
      clear hb2
      go_upto_region 4 with fail
      go_region_held3 (fun w'=>w'.cell? ⟨ba,0,none⟩=some (.bool na)∧w'.cell? ⟨ba,1,none⟩=some (.slice ao N c)∧w'.cell? ⟨bb,1,none⟩=some (.slice bo M c')) (go_keep)
        (first
          | (go_at_call 133
             refine (minus_any ((HM.out.1.below H2.out).below (ZR _ w2).drew) ((HM.out.2.1.below H2.out).below (ZR _ w2).drew) HLE.out.1 HLE.out.2 (by have:=HL.out.1; omega)).mono ?_
             rintro e w3 ⟨v3,r,rfl,hm3,hv3,hl3,hb3⟩
             have x0:=ZJ hb3 x0
             have y0:=ZJ hb3 y0
             have x1:=ZJ hb3 x1
             have y1:=ZJ hb3 y1
             have z0:=ZJ hb3 z0
             have z1:=ZJ hb3 z1
             have f0:=frozen_below hb3 (p:=⟨bc,0,none⟩) (Nat.lt_of_lt_of_le HAL.out.2.2.1 H2.out.size) f0
             have f1:=frozen_below hb3 (p:=⟨bc,1,none⟩) (Nat.lt_of_lt_of_le HAL.out.2.2.1 H2.out.size) f1
             have H3:=ZH (ZN hm3 (ZN hv3 (ZN hl3 hb3)))
             clear hm3 hv3 hl3 hb3)
          | (go_at_call 110
             refine (signed_any na H3.out.1).mono ?_
             rintro e w4 ⟨v4,rfl,hi4,hb4⟩
             obtain ⟨s4,a4,c4,l4,rfl,-⟩:=int_sign hi4
             have x0:=ZJ hb4 x0
             have y0:=ZJ hb4 y0
             have x1:=ZJ hb4 x1
             have y1:=ZJ hb4 y1
             have z0:=ZJ hb4 z0
             have z1:=ZJ hb4 z1
             have f0:=frozen_below hb4 (p:=⟨bc,0,none⟩) (Nat.lt_of_lt_of_le HAL.out.2.2.1 (Nat.le_trans H2.out.size H3.out.2.2.2.size)) f0
             have f1:=frozen_below hb4 (p:=⟨bc,1,none⟩) (Nat.lt_of_lt_of_le HAL.out.2.2.1 (Nat.le_trans H2.out.size H3.out.2.2.2.size)) f1
             have H4:=ZH (ZN hi4 hb4)
             clear hi4 hb4))
      all_goals
        have hblk:=(H4.out.2.block bc (Nat.lt_of_lt_of_le HAL.out.2.2.1 (Nat.le_trans H2.out.size H3.out.2.2.2.size))).trans ((H3.out.2.2.2.block bc (Nat.lt_of_lt_of_le HAL.out.2.2.1 H2.out.size)).trans ((H2.out.block bc HAL.out.2.2.1).trans HAL.out.2.2.2))
        have hi:=(H4.out.1.store hblk (.bool s4) (.slice a4 l4.length c4)).more (show r.length≤k+1 by have:=H3.out.2.2.1; have:=HL.out; omega)
        rw[int_sub H3.out.2.1,←HNB.out.1] at hi
        have hbf:Below w.heap.size w ((w4.setCell ⟨bc,0,none⟩ (.bool s4)).setCell ⟨bc,1,none⟩ (.slice a4 l4.length c4)):=
          (((((HAL.out.1.trans (H2.out.mono HAL.out.1.size)).drew).trans (H3.out.2.2.2.mono (Nat.le_trans HAL.out.1.size H2.out.size))).trans (H4.out.2.mono (Nat.le_trans HAL.out.1.size (Nat.le_trans H2.out.size H3.out.2.2.2.size)))).setCell HAL.out.2.1 _).setCell HAL.out.2.1 _
        have HF:=ZH (ZN hi hbf)
        clear hblk hi hbf
        go_wp2_with fail
        exact bodyPost_ret (v:=.agg #[.bool s4,.slice a4 l4.length c4]) (by simp[results,Tryz.results99,go_sem,z0,z1]) rfl ⟨_,rfl,HF.out⟩
    · have e2:((0:Int)≤cmpI (val a:Int) (val b:Int))=False:=eq_false (by rw[cmp_lt (by omega)]; omega)
      have hll:a.length≤b.length:=by
        rcases Nat.lt_or_ge b.length a.length with h | h
        · have:=norm_short HNB.out.2.2 HM.out.2.2.1 h
          omega
        · exact h
      have HLE:=ZH (ZN (show val a≤val b by omega) hll)
      clear hle hll
      go_wp2_with fail
      refine HO.out.mono ?_
      rintro e w2 ⟨rfl,hb2⟩
      have x0:=ZJ hb2 x0
      have x1:=ZJ hb2 x1
      have y0:=ZJ hb2 y0
      have y1:=ZJ hb2 y1
      have z0:=ZJ hb2 z0
      have z1:=ZJ hb2 z1
      have f0:=frozen_below hb2 (p:=⟨bc,0,none⟩) HAL.out.2.2.1 f0
      have f1:=frozen_below hb2 (p:=⟨bc,1,none⟩) HAL.out.2.2.1 f1
      have H2:=ZH hb2
      clear hb2
      go_upto_region 5 with fail
      go_region_held3 (fun w'=>w'.cell? ⟨bb,0,none⟩=some (.bool nb)∧w'.cell? ⟨ba,1,none⟩=some (.slice ao N c)∧w'.cell? ⟨bb,1,none⟩=some (.slice bo M c')) (go_keep)
        (first
          | (go_at_call 133
             refine (minus_any ((HM.out.2.1.below H2.out).below (ZR _ w2).drew) ((HM.out.1.below H2.out).below (ZR _ w2).drew) HLE.out.1 HLE.out.2 (by have:=HL.out.2.1; omega)).mono ?_
             rintro e w3 ⟨v3,r,rfl,hm3,hv3,hl3,hb3⟩
             have x0:=ZJ hb3 x0
             have y0:=ZJ hb3 y0
             have x1:=ZJ hb3 x1
             have y1:=ZJ hb3 y1
             have z0:=ZJ hb3 z0
             have z1:=ZJ hb3 z1
             have f0:=frozen_below hb3 (p:=⟨bc,0,none⟩) (Nat.lt_of_lt_of_le HAL.out.2.2.1 H2.out.size) f0
             have f1:=frozen_below hb3 (p:=⟨bc,1,none⟩) (Nat.lt_of_lt_of_le HAL.out.2.2.1 H2.out.size) f1
             have H3:=ZH (ZN hm3 (ZN hv3 (ZN hl3 hb3)))
             clear hm3 hv3 hl3 hb3)
          | (go_at_call 110
             refine (signed_any nb H3.out.1).mono ?_
             rintro e w4 ⟨v4,rfl,hi4,hb4⟩
             obtain ⟨s4,a4,c4,l4,rfl,-⟩:=int_sign hi4
             have x0:=ZJ hb4 x0
             have y0:=ZJ hb4 y0
             have x1:=ZJ hb4 x1
             have y1:=ZJ hb4 y1
             have z0:=ZJ hb4 z0
             have z1:=ZJ hb4 z1
             have f0:=frozen_below hb4 (p:=⟨bc,0,none⟩) (Nat.lt_of_lt_of_le HAL.out.2.2.1 (Nat.le_trans H2.out.size H3.out.2.2.2.size)) f0
             have f1:=frozen_below hb4 (p:=⟨bc,1,none⟩) (Nat.lt_of_lt_of_le HAL.out.2.2.1 (Nat.le_trans H2.out.size H3.out.2.2.2.size)) f1
             have H4:=ZH (ZN hi4 hb4)
             clear hi4 hb4))
      all_goals
        have hblk:=(H4.out.2.block bc (Nat.lt_of_lt_of_le HAL.out.2.2.1 (Nat.le_trans H2.out.size H3.out.2.2.2.size))).trans ((H3.out.2.2.2.block bc (Nat.lt_of_lt_of_le HAL.out.2.2.1 H2.out.size)).trans ((H2.out.block bc HAL.out.2.2.1).trans HAL.out.2.2.2))
        have hi:=(H4.out.1.store hblk (.bool s4) (.slice a4 l4.length c4)).more (show r.length≤k+1 by have:=H3.out.2.2.1; have:=HL.out; omega)
        rw[int_sub H3.out.2.1,HNB.out.1,Bool.not_not,Int.add_comm,←HNB.out.1] at hi
        have hbf:Below w.heap.size w ((w4.setCell ⟨bc,0,none⟩ (.bool s4)).setCell ⟨bc,1,none⟩ (.slice a4 l4.length c4)):=
          (((((HAL.out.1.trans (H2.out.mono HAL.out.1.size)).drew).trans (H3.out.2.2.2.mono (Nat.le_trans HAL.out.1.size H2.out.size))).trans (H4.out.2.mono (Nat.le_trans HAL.out.1.size (Nat.le_trans H2.out.size H3.out.2.2.2.size)))).setCell HAL.out.2.1 _).setCell HAL.out.2.1 _
        have HF:=ZH (ZN hi hbf)
        clear hblk hi hbf
        go_wp2_with fail
        exact bodyPost_ret (v:=.agg #[.bool s4,.slice a4 l4.length c4]) (by simp[results,Tryz.results99,go_sem,z0,z1]) rfl ⟨_,rfl,HF.out⟩
theorem two_digits (w:World) (U:Nat) (hU:U≤9223372036854775808):MagIn (w.alloc (.cells #[.int .u32 ((U:Int)%4294967296),.int .u32 ((U:Int)/4294967296)] 145)) (.slice (some ⟨w.heap.size,0,none⟩) 2 2) [U%4294967296,U/4294967296]:=by
  refine ⟨_,_,rfl,Nat.le_refl _,by unfold maxLen; simp,?_,fun _=>⟨w.heap.size,0,rfl,by simp,fun j hj=>?_⟩⟩
  · intro d hd
    simp only[List.mem_cons,List.not_mem_nil,or_false] at hd
    rcases hd with rfl | rfl<;>omega
  · rw[ZI (ZW w _)]
    simp only[List.length_cons,List.length_nil] at hj
    have:j=0∨j=1:=by omega
    rcases this with rfl | rfl
    · simp[u32V]
    · simp[u32V]
theorem val_two (U:Nat):val [U%4294967296,U/4294967296]=U:=by simp only[val]; omega
theorem From_any {w:World} {n:Int} (h0:-9223372036854775808≤n) (h1:n≤9223372036854775807):Calls Tryz.prog 74 #[.int .i64 n] w fun e w'=>∃v,e=.returned v∧IntIn w' v n 2∧Below w.heap.size w w':=by
  obtain ⟨wa,hwa⟩:∃wa,wa=w.alloc (.cells #[.bool false,.slice none 0 0] 45):=⟨_,rfl⟩
  obtain ⟨ba,hba⟩:∃ba,ba=w.heap.size:=⟨_,rfl⟩
  have hal:Below w.heap.size w wa:=by rw[hwa]; exact (ZR _ w).alloc (Nat.le_refl _) _
  have hblk:wa.heap[ba]?=some (.cells #[.bool false,.slice none 0 0] 45 (0,0)):=by rw[hwa,hba]; exact ZW w _
  have hsz:ba<wa.heap.size:=ZL hblk
  have x0:=ZI hblk 0
  have x1:=ZI hblk 1
  have f0:=ZF hblk 0
  have f1:=ZF hblk 1
  simp at x0 x1
  have hge:w.heap.size≤ba:=by omega
  have HAL:=ZH (ZN hal (ZN hge (ZN hsz hblk)))
  have HW:=ZH (ZN hwa hba)
  clear hal hblk hwa hba hge hsz
  go_enter Tryz.func74,Tryz.ntmps74
  go_upto_region 1 with fail
  rw[←HW.out.1,←HW.out.2]
  clear HW
  by_cases hn:n<0
  · have e1:(n<0)=True:=eq_true hn
    obtain ⟨U,hU⟩:∃U:Nat,(U:Int) = -n:=⟨(-n).toNat,by omega⟩
    have hU2:U≤9223372036854775808:=by omega
    have HU:=ZH (show (U:Int) = -n∧U≤9223372036854775808 from ⟨hU,hU2⟩)
    have hw:IntKind.u64.wrap (-IntKind.u64.wrap n)=(U:Int):=by
      rw[IntKind.wrap_u64,IntKind.wrap_u64]
      omega
    clear hn hU h0 h1
    go_upto_region 4 with fail
    clear hw
    go_wp2_with fail
    have hm:=two_digits wa U (by omega)
    have HM:=ZH hm
    have hb5:Below w.heap.size w (wa.alloc (.cells #[.int .u32 ((U:Int)%4294967296),.int .u32 ((U:Int)/4294967296)] 145)):=HAL.out.1.alloc HAL.out.1.size _
    have hk5:(wa.alloc (.cells #[.int .u32 ((U:Int)%4294967296),.int .u32 ((U:Int)/4294967296)] 145)).heap[ba]?=some (.cells #[.bool false,.slice none 0 0] 45 (0,0)):=(Below.heap_alloc _ _ _ HAL.out.2.2.1).trans HAL.out.2.2.2
    have HK:=ZH (ZN hb5 hk5)
    clear hm hb5 hk5
    refine (signed_any true HM.out).mono ?_
    rintro e w4 ⟨v4,rfl,hi4,hb4⟩
    obtain ⟨s4,a4,c4,l4,rfl,-⟩:=int_sign hi4
    have hblk:=(hb4.block ba (ZL HK.out.2)).trans HK.out.2
    have z0:=ZI hblk 0
    have z1:=ZI hblk 1
    have g0:=ZF hblk 0
    have g1:=ZF hblk 1
    simp at z0 z1
    have hi:=hi4.store hblk (.bool s4) (.slice a4 l4.length c4)
    have hbf:Below w.heap.size w ((w4.setCell ⟨ba,0,none⟩ (.bool s4)).setCell ⟨ba,1,none⟩ (.slice a4 l4.length c4)):=((HK.out.1.trans (hb4.mono HK.out.1.size)).setCell HAL.out.2.1 _).setCell HAL.out.2.1 _
    have HF:=ZH (ZN hi hbf)
    clear hblk hi hbf hi4 hb4 x0 x1 f0 f1
    go_wp2_with fail
    refine bodyPost_ret (v:=.agg #[.bool s4,.slice a4 l4.length c4]) (by simp[results,Tryz.results74,go_sem,z0,z1]) rfl ⟨_,rfl,?_,HF.out.2⟩
    have e9:n=int true [U%4294967296,U/4294967296]:=by
      have:=HU.out
      unfold int
      rw[val_two U]
      first | (simp; omega) | simp
    rw[e9]
    exact HF.out.1
  · have e1:(n<0)=False:=eq_false hn
    obtain ⟨U,hU⟩:∃U:Nat,n=(U:Int):=⟨n.toNat,by omega⟩
    subst hU
    have hU2:U≤9223372036854775808:=by omega
    have HU:=ZH hU2
    clear hn h0
    go_upto_region 4 with fail
    go_wp2_with fail
    have hm:=two_digits wa U (by omega)
    have HM:=ZH hm
    have hb5:Below w.heap.size w (wa.alloc (.cells #[.int .u32 ((U:Int)%4294967296),.int .u32 ((U:Int)/4294967296)] 145)):=HAL.out.1.alloc HAL.out.1.size _
    have hk5:(wa.alloc (.cells #[.int .u32 ((U:Int)%4294967296),.int .u32 ((U:Int)/4294967296)] 145)).heap[ba]?=some (.cells #[.bool false,.slice none 0 0] 45 (0,0)):=(Below.heap_alloc _ _ _ HAL.out.2.2.1).trans HAL.out.2.2.2
    have HK:=ZH (ZN hb5 hk5)
    clear hm hb5 hk5
    refine (signed_any false HM.out).mono ?_
    rintro e w4 ⟨v4,rfl,hi4,hb4⟩
    obtain ⟨s4,a4,c4,l4,rfl,-⟩:=int_sign hi4
    have hblk:=(hb4.block ba (ZL HK.out.2)).trans HK.out.2
    have z0:=ZI hblk 0
    have z1:=ZI hblk 1
    have g0:=ZF hblk 0
    have g1:=ZF hblk 1
    simp at z0 z1
    have hi:=hi4.store hblk (.bool s4) (.slice a4 l4.length c4)
    have hbf:Below w.heap.size w ((w4.setCell ⟨ba,0,none⟩ (.bool s4)).setCell ⟨ba,1,none⟩ (.slice a4 l4.length c4)):=((HK.out.1.trans (hb4.mono HK.out.1.size)).setCell HAL.out.2.1 _).setCell HAL.out.2.1 _
    have HF:=ZH (ZN hi hbf)
    clear hblk hi hbf hi4 hb4 x0 x1 f0 f1
    go_wp2_with fail
    refine bodyPost_ret (v:=.agg #[.bool s4,.slice a4 l4.length c4]) (by simp[results,Tryz.results74,go_sem,z0,z1]) rfl ⟨_,rfl,?_,HF.out.2⟩
    have e9:(U:Int)=int false [U%4294967296,U/4294967296]:=by
      have:=HU.out
      unfold int
      rw[val_two U]
      first | (simp; omega) | simp
    rw[e9]
    exact HF.out.1
theorem Sub_any {w:World} {va vb:Value} {x y:Int} {k:Nat} (ha:IntIn w va x k) (hb:IntIn w vb y k) (hk:k≤900000):Calls Tryz.prog 176 #[va,vb] w fun e w'=>∃v,e=.returned v∧IntIn w' v (x-y) (k+1)∧Below w.heap.size w w':=by
  have HA:=ZH ha
  have HB:=ZH hb
  obtain ⟨na,ao,c,a,rfl,-⟩:=int_sign ha
  obtain ⟨nb,bo,c',b,rfl,-⟩:=int_sign hb
  generalize a.length=N at *
  generalize b.length=M at *
  obtain ⟨wa,hwa⟩:∃wa,wa=((w.alloc (.cells #[.bool na,.slice ao N c] 45)).alloc (.cells #[.bool nb,.slice bo M c'] 45)).alloc (.cells #[.bool false,.slice none 0 0] 45):=⟨_,rfl⟩
  obtain ⟨ba,hba⟩:∃ba,ba=w.heap.size:=⟨_,rfl⟩
  obtain ⟨bb,hbb⟩:∃bb,bb=w.heap.size+1:=⟨_,rfl⟩
  obtain ⟨bc,hbc⟩:∃bc,bc=w.heap.size+2:=⟨_,rfl⟩
  have hal:Below w.heap.size w wa:=by rw[hwa]; exact (((ZR _ w).alloc (Nat.le_refl _) _).alloc (by simp) _).alloc (by simp; omega) _
  obtain ⟨k1,k2,k3⟩:=three_made w #[.bool na,.slice ao N c] #[.bool nb,.slice bo M c'] #[.bool false,.slice none 0 0] 45 45 45
  rw[←hwa,←hba] at k1
  rw[←hwa,←hbb] at k2
  rw[←hwa,←hbc] at k3
  have x0:=ZI k1 0
  have x1:=ZI k1 1
  have y0:=ZI k2 0
  have y1:=ZI k2 1
  have z0:=ZI k3 0
  have z1:=ZI k3 1
  have f0:=ZF k3 0
  have f1:=ZF k3 1
  simp at x0 x1 y0 y1 z0 z1
  have hsz:bc<wa.heap.size:=ZL k3
  have hge:w.heap.size≤bc:=by omega
  have n1:¬ba=bc:=by omega
  have n2:¬bb=bc:=by omega
  have n3:¬bc=ba:=by omega
  have n4:¬bc=bb:=by omega
  have HAL:=ZH (ZN hal (ZN hge (ZN hsz k3)))
  have HW:=ZH (ZN hwa (ZN hba (ZN hbb hbc)))
  clear ha hb hal k1 k2 k3 hwa hba hbb hbc hsz hge
  go_enter Tryz.func176,Tryz.ntmps176
  go_upto_region 1 with fail
  rw[←HW.out.1,←HW.out.2.2.2,←HW.out.2.2.1,←HW.out.2.1]
  clear HW
  go_region_held3 (fun w'=>w'.cell? ⟨ba,0,none⟩=some (.bool na)∧w'.cell? ⟨ba,1,none⟩=some (.slice ao N c)∧w'.cell? ⟨bb,0,none⟩=some (.bool nb)∧w'.cell? ⟨bb,1,none⟩=some (.slice bo M c')) (go_keep)
    (first
      | (go_at_call 134
         refine (Neg_any ((HB.out.below HAL.out.1).below (ZR _ wa).drew)).mono ?_
         rintro e w3 ⟨v3,rfl,hi3,hb3⟩
         have x0:=ZJ hb3 x0
         have x1:=ZJ hb3 x1
         have y0:=ZJ hb3 y0
         have y1:=ZJ hb3 y1
         have z0:=ZJ hb3 z0
         have z1:=ZJ hb3 z1
         have f0:=frozen_below hb3 (p:=⟨bc,0,none⟩) HAL.out.2.2.1 f0
         have f1:=frozen_below hb3 (p:=⟨bc,1,none⟩) HAL.out.2.2.1 f1
         have H3:=ZH (ZN hi3 hb3)
         clear hi3 hb3)
      | (go_at_call 99
         refine (Add_any (((HA.out.below HAL.out.1).below (ZR _ wa).drew).below H3.out.2) H3.out.1 hk).mono ?_
         rintro e w4 ⟨v4,rfl,hi4,hb4⟩
         obtain ⟨s4,a4,c4,l4,rfl,-⟩:=int_sign hi4
         have x0:=ZJ hb4 x0
         have x1:=ZJ hb4 x1
         have y0:=ZJ hb4 y0
         have y1:=ZJ hb4 y1
         have z0:=ZJ hb4 z0
         have z1:=ZJ hb4 z1
         have f0:=frozen_below hb4 (p:=⟨bc,0,none⟩) (Nat.lt_of_lt_of_le HAL.out.2.2.1 H3.out.2.size) f0
         have f1:=frozen_below hb4 (p:=⟨bc,1,none⟩) (Nat.lt_of_lt_of_le HAL.out.2.2.1 H3.out.2.size) f1
         have H4:=ZH (ZN hi4 hb4)
         clear hi4 hb4))
  all_goals
    have hblk:=(H4.out.2.block bc (Nat.lt_of_lt_of_le HAL.out.2.2.1 H3.out.2.size)).trans ((H3.out.2.block bc HAL.out.2.2.1).trans HAL.out.2.2.2)
    have hi:=H4.out.1.store hblk (.bool s4) (.slice a4 l4.length c4)
    rw[←Int.sub_eq_add_neg] at hi
    have hbf:Below w.heap.size w ((w4.setCell ⟨bc,0,none⟩ (.bool s4)).setCell ⟨bc,1,none⟩ (.slice a4 l4.length c4)):=
      ((((HAL.out.1.drew).trans (H3.out.2.mono HAL.out.1.size)).trans (H4.out.2.mono (Nat.le_trans HAL.out.1.size H3.out.2.size))).setCell HAL.out.2.1 _).setCell HAL.out.2.1 _
    have HF:=ZH (ZN hi hbf)
    clear hblk hi hbf
    go_wp2_with fail
    exact bodyPost_ret (v:=.agg #[.bool s4,.slice a4 l4.length c4]) (by simp[results,Tryz.results176,go_sem,z0,z1]) rfl ⟨_,rfl,HF.out⟩
theorem ofInt_u64 (a:Nat) (h:a<18446744073709551616):(BitVec.ofInt 64 (a:Int)).toNat=a:=by
 rw[BitVec.toNat_ofInt]
 omega
theorem u64_or {m d:Nat} (hm:m<4294967296) (hd:d<4294967296):bits .or .u64 ((m:Int)*4294967296) (d:Int)=((m*4294967296+d:Nat):Int):=by
 have e:(m:Int)*4294967296=((m*4294967296:Nat):Int):=by omega
 rw[e]
 show IntKind.u64.wrap ((BitVec.ofInt 64 ((m*4294967296:Nat):Int) ||| BitVec.ofInt 64 (d:Int)).toNat:Int)=_
 rw[BitVec.toNat_or,ofInt_u64 _ (by omega),ofInt_u64 _ (by omega)]
 have h2:m*4294967296 ||| d=m*4294967296+d:=by
  have:=(Nat.two_pow_add_eq_or_of_lt (i:=32) hd m).symm
  rw[Nat.mul_comm] at this
  exact this
 rw[h2,IntKind.wrap_u64]
 omega
theorem short_new {w:World} {va:Value} {a:List Nat} {d:Nat} (ha:MagIn w va a) (hk:a.length≤1000000) (hd0:0<d) (hd1:d<4294967296) :
  Calls Tryz.prog 112 #[va,.int .u32 d] w fun e w'=>∃v r m,e=.returned (.tuple #[v,.int .u32 (m:Nat)])∧MagIn w' v r∧Norm r∧val a=d*val r+m∧m<d∧r.length≤a.length∧Below w.heap.size w w'∧∀p n c,v=.slice (some p) n c→w.heap.size≤p.block:=by
 obtain ⟨ao,c,rfl,hc1,hc2,oa,hca⟩:=ha
 have HA:=ZH hca
 have HOA:=ZH oa
 unfold maxLen at hc2
 obtain ⟨N,hN⟩:∃N,N=a.length:=⟨_,rfl⟩
 rw[←hN] at hc1 HA hk⊢
 have HN:=ZH hN
 have hmk:=make_dig N (by omega) w
 clear hca oa hN
 go_enter Tryz.func112,Tryz.ntmps112
 go_upto_region 2 with fail
 obtain ⟨g,hg⟩:∃g,g=w.heap.size:=⟨_,rfl⟩
 have hrow:=dig_made w N
 have hal:Below w.heap.size w (w.alloc (.cells (madeCells #[.int .u32 0] N) 145)):=(ZR _ w).alloc (Nat.le_refl _) _
 rw[←hg] at hrow
 rw[←hg]
 have HGE:=ZH (show w.heap.size≤g by omega)
 have H0:=ZH (ZN hal hrow)
 generalize w.alloc (.cells (madeCells #[.int .u32 0] N) 145)=wa at *
 clear hmk hg hal hrow
 go_wp2_with fail
 go_loopw [7,8] (fun rs i wr=>∃(k m:Nat) (q:Int) (o:List Nat),k≤N∧q=(k:Int)-1∧i=.int .i64 q∧rs=.int .u64 m∧m<d∧Hid (o.length=N∧DigRow wr g o∧Ok o∧val (a.drop k)=d*val (o.drop k)+m)∧Hid (Below w.heap.size w wr)) (fun _ i _=>(intOf i+1).toNat)
 case atStart=>
  refine ⟨N,0,_,List.replicate N 0,Nat.le_refl _,rfl,rfl,rfl,hd0,ZH ⟨by simp,H0.out.2,ok_zero _,?_⟩,ZH H0.out.1⟩
  rw[List.drop_eq_nil_of_le (by rw[HN.out]; exact Nat.le_refl _),List.drop_eq_nil_of_le (by simp)]
  rfl
 case round=>
  obtain ⟨k,m,q,o,hkN,hq,rfl,rfl,hm,ho,hbw⟩:=hrel
  cases k with
  | zero=>
   obtain rfl:q = -1:=by omega
   have e3:((0:Int)≤-1)=False:=by simp
   have hmag:=ho.out.2.1.mag ho.out.2.2.1 (by rw[ho.out.1]; unfold maxLen; omega)
   rw[ho.out.1] at hmag
   have htr:=trim_any (by rw[←ho.out.1] at hmag; exact hmag)
   have HM:=ZH hmag
   have HT:=ZH htr
   have hmb:(m:Int)%4294967296=(m:Int):=by omega
   clear hq hmag htr
   go_wp2_with fail
   rw[←ho.out.1]
   refine HT.out.mono ?_
   rintro e w2 ⟨ao2,c2,n,hve,rfl,rfl,hn,hNm,hv⟩
   have hmt:MagIn w2 (.slice ao2 n c2) (o.take n):=by
    have:=HM.out
    rw[←ho.out.1,hve] at this
    exact this.take hn
   have hnew:∀p n1 c1,Value.slice ao2 n c2=.slice (some p) n1 c1→w.heap.size≤p.block:=fun p n1 c1 h=>by
    simp only[Value.slice.injEq] at h hve
    obtain ⟨rfl,-,-⟩:=h
    have:=hve.1
    simp only[Option.some.injEq] at this
    rw[←this]
    exact HGE.out
   have HF:=ZH (ZN hmt (ZN hNm (ZN hv (ZN hn hnew))))
   clear hmt hNm hv hn hve hnew
   go_wp2_with fail
   go_ret2
   refine ⟨_,_,m,rfl,HF.out.1,HF.out.2.1,?_,hm,?_,hbw.out,HF.out.2.2.2.2⟩
   ·have:=ho.out.2.2.2
    rw[List.drop_zero,List.drop_zero] at this
    rw[this,HF.out.2.2.1]
   ·rw[List.length_take]
    have:=ho.out.1
    omega
  | succ k=>
   obtain rfl:q=(k:Int):=by omega
   obtain ⟨ba,offa,rfl,hlta,hcella⟩:=HA.out (by omega)
   have x0:=(hbw.out.cell (p:=⟨ba,offa+k,none⟩) hlta).trans (hcella k (by omega))
   obtain ⟨da,hda⟩:∃d,d=a.getD k 0:=⟨_,rfl⟩
   have hda2:da<4294967296:=by rw[hda]; exact HOA.out.at k
   rw[←hda] at x0
   unfold u32V at x0
   have HDA:=ZH hda
   have g0:=ho.out.2.1.at (i:=k) (by rw[ho.out.1]; omega)
   have g1:=World.rowIs.frozen ho.out.2.1 k
   have hi0:(0:Int)≤(k:Int):=by omega
   have hi1:(k:Int)<(N:Int):=by omega
   have e3:((0:Int)≤(k:Int))=True:=eq_true hi0
   clear hcella hda hq
   obtain ⟨C,hC⟩:∃C,C=m*4294967296+da:=⟨_,rfl⟩
   have hor:=u64_or (m:=m) (d:=da) (by omega) hda2
   rw[←hC] at hor
   have hCb:C<18446744073709551616:=by omega
   have hq:=short_digit (r:=m) (b:=d) (d:=da) hm hda2
   rw[←hC] at hq
   have hst:=short_step (i:=k) (q:=o) (r:=m) (b:=d) (by rw[←HN.out]; omega) (by rw[ho.out.1,HN.out]) ho.out.2.2.2
   rw[←HDA.out,←hC] at hst
   obtain ⟨Q,hQ⟩:∃Q,Q=C/d:=⟨_,rfl⟩
   obtain ⟨R,hR⟩:∃R,R=C%d:=⟨_,rfl⟩
   have hRd:R<d:=by rw[hR]; exact Nat.mod_lt _ hd0
   rw[←hQ,←hR] at hst
   rw[←hQ] at hq
   have hdv:(C:Int).tdiv (d:Int)=(Q:Int):=by rw[hQ]; rfl
   have hdm:(C:Int).tmod (d:Int)=(R:Int):=by rw[hR]; rfl
   have hnz:((d:Int)==0)=false:=ZQ.2 (by omega)
   have HST:=ZH (ZN hst (ZN hQ hR))
   clear hst hC hQ hR
   go_upto_region 7 with fail
   go_wp2_with fail
   exact ⟨⟨k,R,_,o.set k Q,by omega,rfl,rfl,rfl,hRd,ZH ⟨by rw[List.length_set]; exact ho.out.1,ho.out.2.1.set (by rw[ho.out.1]; omega) Q,ho.out.2.2.1.set k hq,HST.out.1⟩,ZH (hbw.out.setCell HGE.out _)⟩,by simp[intOf]⟩
theorem short_any {w:World} {va:Value} {a:List Nat} {d:Nat} (ha:MagIn w va a) (hk:a.length≤1000000) (hd0:0<d) (hd1:d<4294967296) :
  Calls Tryz.prog 112 #[va,.int .u32 d] w fun e w'=>∃v r m,e=.returned (.tuple #[v,.int .u32 (m:Nat)])∧MagIn w' v r∧Norm r∧val a=d*val r+m∧m<d∧r.length≤a.length∧Below w.heap.size w w':=
 (short_new ha hk hd0 hd1).mono fun _ _ ⟨v,r,m,h1,h2,h3,h4,h5,h6,h7,_⟩=>⟨v,r,m,h1,h2,h3,h4,h5,h6,h7⟩
theorem scale_step {o a:List Nat} {k c x p:Nat} (hi:k<o.length) (h:val (o.take k)+pw k*c=x*val (a.take k)+p) :
  val ((o.set k ((c+a.getD k 0*x)%4294967296)).take (k+1))+pw (k+1)*((c+a.getD k 0*x)/4294967296)=x*val (a.take (k+1))+p:=by
 rw[step_val hi,take_step a,Nat.mul_add,Nat.mul_add]
 have e:x*(pw k*a.getD k 0)=pw k*(a.getD k 0*x):=by rw[Nat.mul_left_comm,Nat.mul_comm x]
 omega
theorem mul_small {a b:Nat} (ha:a<4294967296) (hb:b<4294967296):a*b≤18446744065119617025:=Nat.mul_le_mul (show a≤4294967295 by omega) (show b≤4294967295 by omega)
theorem scale_any {w:World} {va:Value} {a:List Nat} {x p:Nat} (ha:MagIn w va a) (hk:a.length≤1000000) (hx:x<4294967296) (hp:p<4294967296) :
  Calls Tryz.prog 174 #[va,.int .u32 x,.int .u32 p] w fun e w'=>∃v r,e=.returned v∧MagIn w' v r∧Norm r∧val r=x*val a+p∧r.length≤a.length+1∧Below w.heap.size w w':=by
 obtain ⟨ao,c,rfl,hc1,hc2,oa,hca⟩:=ha
 have HA:=ZH hca
 have HOA:=ZH oa
 unfold maxLen at hc2
 obtain ⟨N,hN⟩:∃N,N=a.length:=⟨_,rfl⟩
 rw[←hN] at hc1 HA hk⊢
 have HN:=ZH hN
 have hmk:=make_dig (N+1) (by omega) w
 rw[show ((N+1:Nat):Int)=(N:Int)+1 by omega] at hmk
 clear hca oa hN
 go_enter Tryz.func174,Tryz.ntmps174
 go_upto_region 2 with fail
 obtain ⟨g,hg⟩:∃g,g=w.heap.size:=⟨_,rfl⟩
 have hrow:=dig_made w (N+1)
 have hal:Below w.heap.size w (w.alloc (.cells (madeCells #[.int .u32 0] (N+1)) 145)):=(ZR _ w).alloc (Nat.le_refl _) _
 rw[←hg] at hrow
 rw[←hg]
 have HGE:=ZH (show w.heap.size≤g by omega)
 have H0:=ZH (ZN hal hrow)
 generalize w.alloc (.cells (madeCells #[.int .u32 0] (N+1)) 145)=wa at *
 clear hmk hg hal hrow
 go_wp2_with fail
 go_loopw [8,19] (fun cr i wr=>∃(k cy:Nat) (o:List Nat),k≤N∧i=.int .i64 k∧cr=.int .u64 cy∧cy<4294967296∧Hid (o.length=N+1∧DigRow wr g o∧Ok o∧val (o.take k)+pw k*cy=x*val (a.take k)+p)∧Hid (Below w.heap.size w wr)) (fun _ i _=>N-(intOf i).toNat)
 case atStart=>exact ⟨0,p,List.replicate (N+1) 0,Nat.zero_le _,rfl,rfl,hp,ZH ⟨by simp,H0.out.2,ok_zero _,by simp[val,pw]⟩,ZH H0.out.1⟩
 case round=>
  obtain ⟨k,cy,o,hkN,rfl,rfl,hcy,ho,hbw⟩:=hrel
  by_cases hlt:k<N
  ·obtain ⟨ba,offa,rfl,hlta,hcella⟩:=HA.out (by omega)
   have x0:=(hbw.out.cell (p:=⟨ba,offa+k,none⟩) hlta).trans (hcella k hlt)
   obtain ⟨da,hda⟩:∃d,d=a.getD k 0:=⟨_,rfl⟩
   have hda2:da<4294967296:=by rw[hda]; exact HOA.out.at k
   rw[←hda] at x0
   unfold u32V at x0
   have g0:=ho.out.2.1.at (i:=k) (by rw[ho.out.1]; omega)
   have g1:=World.rowIs.frozen ho.out.2.1 k
   have hi0:(0:Int)≤(k:Int):=by omega
   have hi1:(k:Int)<(N:Int):=by omega
   have hi2:(k:Int)<(N:Int)+1:=by omega
   obtain ⟨P,hP⟩:∃P,P=da*x:=⟨_,rfl⟩
   have hP2:P≤18446744065119617025:=by rw[hP]; exact mul_small hda2 hx
   have hPi:(da:Int)*(x:Int)=(P:Int):=by rw[hP]; exact (Int.natCast_mul da x).symm
   have hst:=scale_step (k:=k) (by rw[ho.out.1]; omega) ho.out.2.2.2
   rw[←hda,←hP] at hst
   have HST:=ZH hst
   clear hcella hda hP hst
   go_wp2_with fail
   have hv:Value.int .u32 (((cy:Int)+(P:Int))%4294967296)=u32V ((cy+P)%4294967296):=by unfold u32V; congr 1
   rw[hv]
   exact ⟨⟨k+1,(cy+P)/4294967296,o.set k ((cy+P)%4294967296),by omega,by congr 1,by congr 1,by omega,ZH ⟨by rw[List.length_set]; exact ho.out.1,ho.out.2.1.set (by rw[ho.out.1]; omega) _,ho.out.2.2.1.set k (by omega),HST.out⟩,ZH (hbw.out.setCell HGE.out _)⟩,by simp[intOf]; omega⟩
  ·obtain rfl:k=N:=by omega
   have g0:=ho.out.2.1.at (i:=k) (by rw[ho.out.1]; omega)
   have g1:=World.rowIs.frozen ho.out.2.1 k
   have hi0:(0:Int)≤(k:Int):=by omega
   have hi2:(k:Int)<(k:Int)+1:=by omega
   have hlen:(o.set k cy).length=k+1:=by rw[List.length_set]; exact ho.out.1
   have hm:=(ho.out.2.1.set (i:=k) (by rw[ho.out.1]; omega) cy).mag (ho.out.2.2.1.set k (by omega)) (by rw[hlen]; unfold maxLen; omega)
   have htr:=trim_any hm
   rw[hlen] at htr hm
   unfold u32V at htr hm
   have HT:=ZH htr
   have HM:=ZH hm
   have HLN:=ZH hlen
   clear htr hm hlen
   go_wp2_with fail
   refine HT.out.mono ?_
   rintro e w2 ⟨ao2,c2,n,hve,rfl,rfl,hn,hNm,hv⟩
   have hmt:=HM.out
   rw[hve] at hmt
   have hmt2:=(show MagIn _ (.slice ao2 (o.set k cy).length c2) (o.set k cy) from by rw[HLN.out]; exact hmt).take (by rw[HLN.out]; exact hn)
   have hbf:Below w.heap.size w (wr.setCell ⟨g,k,none⟩ (.int .u32 (cy:Int))):=hbw.out.setCell HGE.out _
   have h1:=set_val (l:=o) (k:=k) (d:=cy) (by rw[ho.out.1]; omega)
   rw[List.take_of_length_le (by rw[HLN.out]; exact Nat.le_refl _),ho.out.2.2.2,List.take_of_length_le (l:=a) (by rw[←HN.out]; exact Nat.le_refl _)] at h1
   have HF:=ZH (ZN hmt2 (ZN hNm (ZN (hv.trans h1) (ZN hn hbf))))
   clear hmt hmt2 hNm hv hn hve hbf h1 g0 g1
   go_wp2_with fail
   go_ret
   refine ⟨_,_,rfl,HF.out.1,HF.out.2.1,HF.out.2.2.1,?_,HF.out.2.2.2.2⟩
   have:=HF.out.2.2.2.1
   have:=HLN.out
   rw[List.length_take]
   omega
set_option maxHeartbeats 8000000
theorem digit_zero {l:List Nat} {j:Nat} (h:val l<pw j) (hj:j<l.length):l.getD j 0=0:=by
 rcases Nat.eq_zero_or_pos (l.getD j 0) with h0 | h0
 ·exact h0
 ·have h1:=take_drop_val l j (by omega)
  rw[drop_val hj] at h1
  have h2:pw j*1≤pw j*(l.getD j 0+4294967296*val (l.drop (j+1))):=Nat.mul_le_mul_left _ (by omega)
  omega
theorem mul_step {o a b:List Nat} {k q c v:Nat} (hj:k+q<o.length) (h:val o+pw (k+q)*c=v+pw k*(a.getD k 0*val (b.take q))) :
  val (o.set (k+q) ((c+(a.getD k 0*b.getD q 0+o.getD (k+q) 0))%4294967296))+pw (k+(q+1))*((c+(a.getD k 0*b.getD q 0+o.getD (k+q) 0))/4294967296)=v+pw k*(a.getD k 0*val (b.take (q+1))):=by
 have h1:=set_carry (s:=c+(a.getD k 0*b.getD q 0+o.getD (k+q) 0)) hj
 rw[←Nat.add_assoc k q 1,take_step b]
 have e1:pw (k+q)*(c+(a.getD k 0*b.getD q 0+o.getD (k+q) 0))=pw (k+q)*c+pw (k+q)*(a.getD k 0*b.getD q 0)+pw (k+q)*o.getD (k+q) 0:=by rw[Nat.mul_add,Nat.mul_add,Nat.add_assoc]
 have e2:pw k*(a.getD k 0*(val (b.take q)+pw q*b.getD q 0))=pw k*(a.getD k 0*val (b.take q))+pw (k+q)*(a.getD k 0*b.getD q 0):=by
  rw[Nat.mul_add,Nat.mul_add,pw_add,Nat.mul_left_comm (a.getD k 0) (pw q),←Nat.mul_assoc (pw k) (pw q)]
 rw[e2]
 omega
theorem mul_last {o a b:List Nat} {k c:Nat} (hj:k+b.length<o.length) (hz:o.getD (k+b.length) 0=0) (h:val o+pw (k+b.length)*c=val (a.take k)*val b+pw k*(a.getD k 0*val (b.take b.length))) :
  val (o.set (k+b.length) c)=val (a.take (k+1))*val b:=by
 have h1:=set_full c hj
 rw[hz,Nat.mul_zero,Nat.add_zero] at h1
 rw[List.take_length] at h
 rw[h1,h,take_step a,Nat.add_mul,Nat.mul_assoc]
theorem int_mul {na nb:Bool} {a b r:List Nat} (h:val r=val a*val b):int (na != nb) r=int na a*int nb b:=by
 unfold int
 rw[h]
 cases na<;>cases nb<;>simp[Int.neg_mul,Int.mul_neg]
theorem Mul_any {w:World} {va vb:Value} {x y:Int} {k1 k2:Nat} (ha:IntIn w va x k1) (hb:IntIn w vb y k2) (hk:k1+k2≤900000):Calls Tryz.prog 101 #[va,vb] w fun e w'=>∃v,e=.returned v∧IntIn w' v (x*y) (k1+k2)∧Below w.heap.size w w':=by
 obtain ⟨na,ao,c,a,rfl,hma,hna,hsa,rfl,hka,hc1,hc2⟩:=int_sign ha
 obtain ⟨nb,bo,c',b,rfl,hmb,hnb,hsb,rfl,hkb,hc3,hc4⟩:=int_sign hb
 obtain ⟨N,hN⟩:∃N,N=a.length:=⟨_,rfl⟩
 obtain ⟨M,hM⟩:∃M,M=b.length:=⟨_,rfl⟩
 obtain ⟨wa,hwa⟩:∃wa,wa=((w.alloc (.cells #[.bool na,.slice ao N c] 45)).alloc (.cells #[.bool nb,.slice bo M c'] 45)).alloc (.cells #[.bool false,.slice none 0 0] 45):=⟨_,rfl⟩
 obtain ⟨ba,hba⟩:∃ba,ba=w.heap.size:=⟨_,rfl⟩
 obtain ⟨bb,hbb⟩:∃bb,bb=w.heap.size+1:=⟨_,rfl⟩
 obtain ⟨bc,hbc⟩:∃bc,bc=w.heap.size+2:=⟨_,rfl⟩
 have hal:Below w.heap.size w wa:=by rw[hwa]; exact (((ZR _ w).alloc (Nat.le_refl _) _).alloc (by simp) _).alloc (by simp; omega) _
 obtain ⟨k1',k2',k3'⟩:=three_made w #[.bool na,.slice ao N c] #[.bool nb,.slice bo M c'] #[.bool false,.slice none 0 0] 45 45 45
 rw[←hwa,←hba] at k1'
 rw[←hwa,←hbb] at k2'
 rw[←hwa,←hbc] at k3'
 have x1:=ZI k1' 1
 have y1:=ZI k2' 1
 simp at x1 y1
 have hge:w.heap.size≤bc:=by omega
 have hma':=hma.below hal
 have hmb':=hmb.below hal
 obtain ⟨_,_,ea,_,_,oa,hca⟩:=hma'
 obtain ⟨_,_,eb,_,_,ob,hcb⟩:=hmb'
 simp only[Value.slice.injEq,true_and] at ea eb
 obtain ⟨rfl,rfl⟩:=ea
 obtain ⟨rfl,rfl⟩:=eb
 rw[←hN] at hc1 hca hka⊢
 rw[←hM] at hc3 hcb hkb⊢
 have HA:=ZH hca
 have HB:=ZH hcb
 have HOA:=ZH (ZN oa ob)
 have HN:=ZH (ZN hN hM)
 have HBL:=ZH (ZN k1' (ZN k2' k3'))
 have HAL:=ZH (ZN hal hge)
 have HW:=ZH (ZN hwa (ZN hba (ZN hbb hbc)))
 have hmk:=make_dig (N+M) (by omega) wa
 rw[show ((N+M:Nat):Int)=(N:Int)+(M:Int) by omega] at hmk
 clear ha hb hma hmb hna hnb hsa hsb hN hM hal k1' k2' k3' hwa hba hbb hbc hge hca hcb oa ob
 go_enter Tryz.func101,Tryz.ntmps101
 go_upto_region 1 with fail
 rw[←HW.out.1,←HW.out.2.2.2,←HW.out.2.2.1,←HW.out.2.1]
 clear HW
 go_upto_region 2 with fail
 obtain ⟨g,hg⟩:∃g,g=wa.heap.size:=⟨_,rfl⟩
 have hrow:=dig_made wa (N+M)
 have hal2:Below wa.heap.size wa (wa.alloc (.cells (madeCells #[.int .u32 0] (N+M)) 145)):=(ZR _ wa).alloc (Nat.le_refl _) _
 rw[←hg] at hrow
 rw[←hg]
 have HGE:=ZH (show wa.heap.size≤g by omega)
 have x1:=ZJ hal2 x1
 have y1:=ZJ hal2 y1
 have H0:=ZH (ZN hal2 hrow)
 generalize wa.alloc (.cells (madeCells #[.int .u32 0] (N+M)) 145)=wm at *
 clear hmk hg hal2 hrow
 go_wp2_with fail
 go_loopw [22] (fun i wr=>∃(k:Nat) (o:List Nat),k≤N∧i=.int .i64 k∧Hid (o.length=N+M∧DigRow wr g o∧Ok o∧val o=val (a.take k)*val b)∧Hid (Below wa.heap.size wa wr)) (fun i _=>N-(intOf i).toNat)
 case atStart=>exact ⟨0,List.replicate (N+M) 0,Nat.zero_le _,rfl,ZH ⟨by simp,H0.out.2,ok_zero _,by simp[val,val_zero]⟩,ZH H0.out.1⟩
 case round=>
  obtain ⟨k,o,hkN,rfl,ho,hbw⟩:=hrel
  have x1:=(hbw.out.cell (p:=⟨ba,1,none⟩) (ZL HBL.out.1)).trans (ZI HBL.out.1 1)
  have y1:=(hbw.out.cell (p:=⟨bb,1,none⟩) (ZL HBL.out.2.1)).trans (ZI HBL.out.2.1 1)
  simp at x1 y1
  by_cases hlt:k<N
  ·obtain ⟨aa,offa,rfl,hlta,hcella⟩:=HA.out (by omega)
   have x0:=(hbw.out.cell (p:=⟨aa,offa+k,none⟩) hlta).trans (hcella k hlt)
   obtain ⟨da,hda⟩:∃d,d=a.getD k 0:=⟨_,rfl⟩
   have hda2:da<4294967296:=by rw[hda]; exact HOA.out.1.at k
   rw[←hda] at x0
   unfold u32V at x0
   have HDA:=ZH hda
   have hi0:(0:Int)≤(k:Int):=by omega
   have hi1:(k:Int)<(N:Int):=by omega
   have hoz:o.getD (k+M) 0=0:=by
    refine digit_zero ?_ (by rw[ho.out.1]; omega)
    rw[ho.out.2.2.2,pw_add]
    have h1:=val_lt (HOA.out.1.take k)
    have h2:=val_lt HOA.out.2
    rw[List.length_take,←HN.out.1,Nat.min_eq_left (by omega)] at h1
    rw[←HN.out.2] at h2
    exact Nat.lt_of_le_of_lt (Nat.mul_le_mul_left _ (Nat.le_of_lt h2)) (Nat.mul_lt_mul_of_pos_right h1 (pw_pos M))
   have HOZ:=ZH hoz
   clear hcella hda hoz
   go_wp2_with fail
   go_loopw [8,30] (fun cr i wq=>∃(q cy:Nat) (o2:List Nat),q≤M∧i=.int .i64 q∧cr=.int .u64 cy∧cy<4294967296∧Hid (o2.length=N+M∧DigRow wq g o2∧Ok o2∧o2.getD (k+M) 0=0∧val o2+pw (k+q)*cy=val (a.take k)*val b+pw k*(a.getD k 0*val (b.take q)))∧Hid (Below wa.heap.size wa wq)) (fun _ i _=>M-(intOf i).toNat)
   case atStart=>exact ⟨0,0,o,Nat.zero_le _,rfl,rfl,by omega,ZH ⟨ho.out.1,ho.out.2.1,ho.out.2.2.1,HOZ.out,by rw[ho.out.2.2.2]; simp[val]⟩,hbw⟩
   case round=>
    obtain ⟨q,cy,o2,hqM,rfl,rfl,hcy,ho2,hbq⟩:=hrel
    by_cases hq:q<M
    ·obtain ⟨ab,offb,rfl,hltb,hcellb⟩:=HB.out (by omega)
     have v0:=(hbq.out.cell (p:=⟨ab,offb+q,none⟩) hltb).trans (hcellb q hq)
     obtain ⟨db,hdb⟩:∃d,d=b.getD q 0:=⟨_,rfl⟩
     have hdb2:db<4294967296:=by rw[hdb]; exact HOA.out.2.at q
     rw[←hdb] at v0
     unfold u32V at v0
     have g0:=ho2.out.2.1.at (i:=k+q) (by rw[ho2.out.1]; omega)
     have g1:=World.rowIs.frozen ho2.out.2.1 (k+q)
     obtain ⟨oo,hoo⟩:∃d,d=o2.getD (k+q) 0:=⟨_,rfl⟩
     have hoo2:oo<4294967296:=by rw[hoo]; exact ho2.out.2.2.1.at (k+q)
     rw[←hoo] at g0
     unfold u32V at g0
     obtain ⟨J,hJ⟩:∃J,J=k+q:=⟨_,rfl⟩
     obtain ⟨P,hP⟩:∃P,P=da*db:=⟨_,rfl⟩
     have hP2:P≤18446744065119617025:=by rw[hP]; exact mul_small hda2 hdb2
     have hPi:(da:Int)*(db:Int)=(P:Int):=by rw[hP]; exact (Int.natCast_mul da db).symm
     have hJi:(k:Int)+(q:Int)=(J:Int):=by omega
     have hst:=mul_step (by rw[ho2.out.1]; omega) ho2.out.2.2.2.2
     rw[←HDA.out,←hdb,←hoo,←hP,←hJ] at hst
     have hz2:(o2.set J ((cy+(P+oo))%4294967296)).getD (k+M) 0=0:=by
      rw[List.getD_eq_getElem?_getD,List.getElem?_set_ne (by omega),←List.getD_eq_getElem?_getD]
      exact ho2.out.2.2.2.1
     rw[←hJ] at g0 g1
     have hj0:(0:Int)≤(J:Int):=by omega
     have hj1:(J:Int)<(N:Int)+(M:Int):=by omega
     have hq0:(0:Int)≤(q:Int):=by omega
     have hq1:(q:Int)<(M:Int):=by omega
     have HST:=ZH (ZN hst (ZN hz2 hJ))
     have hJl:J<N+M:=by omega
     have HJL:=ZH hJl
     clear hcellb hdb hoo hP hst hz2 hJ hJl
     go_wp2_with fail
     have hv:Value.int .u32 (((cy:Int)+((P:Int)+(oo:Int)))%4294967296)=u32V ((cy+(P+oo))%4294967296):=by unfold u32V; congr 1
     rw[hv]
     exact ⟨⟨q+1,(cy+(P+oo))/4294967296,o2.set J ((cy+(P+oo))%4294967296),by omega,by congr 1,by congr 1,by omega,ZH ⟨by rw[List.length_set]; exact ho2.out.1,ho2.out.2.1.set (by rw[ho2.out.1]; exact HJL.out) _,ho2.out.2.2.1.set J (by omega),HST.out.2.1,by rw[←HDA.out]; exact HST.out.1⟩,ZH (hbq.out.setCell HGE.out _)⟩,by simp[intOf]; omega⟩
    ·obtain rfl:q=M:=by omega
     have g0:=ho2.out.2.1.at (i:=k+q) (by rw[ho2.out.1]; omega)
     have g1:=World.rowIs.frozen ho2.out.2.1 (k+q)
     have y1:=(hbq.out.cell (p:=⟨bb,1,none⟩) (ZL HBL.out.2.1)).trans (ZI HBL.out.2.1 1)
     simp at y1
     unfold u32V at g0
     obtain ⟨J,hJ⟩:∃J,J=k+q:=⟨_,rfl⟩
     have hJi:(k:Int)+(q:Int)=(J:Int):=by omega
     have hml:=mul_last (a:=a) (b:=b) (k:=k) (c:=cy) (o:=o2) (by rw[←HN.out.2,ho2.out.1]; omega) (by rw[←HN.out.2]; exact ho2.out.2.2.2.1) (by rw[←HN.out.2]; exact ho2.out.2.2.2.2)
     rw[←HN.out.2,←hJ] at hml
     rw[←hJ] at g0 g1
     have hj0:(0:Int)≤(J:Int):=by omega
     have hj1:(J:Int)<(N:Int)+(q:Int):=by omega
     have HML:=ZH hml
     have HJL:=ZH (show J<N+q by omega)
     clear hml hJ
     go_wp2_with fail
     exact ⟨⟨k+1,o2.set J cy,by omega,by congr 1,ZH ⟨by rw[List.length_set]; exact ho2.out.1,ho2.out.2.1.set (by rw[ho2.out.1]; exact HJL.out) cy,ho2.out.2.2.1.set J hcy,HML.out⟩,ZH (hbq.out.setCell HGE.out _)⟩,by simp[intOf]; omega⟩
  ·obtain rfl:k=N:=by omega
   have x0:=(hbw.out.cell (p:=⟨ba,0,none⟩) (ZL HBL.out.1)).trans (ZI HBL.out.1 0)
   have y0:=(hbw.out.cell (p:=⟨bb,0,none⟩) (ZL HBL.out.2.1)).trans (ZI HBL.out.2.1 0)
   simp at x0 y0
   have hm:=ho.out.2.1.mag ho.out.2.2.1 (by rw[ho.out.1]; unfold maxLen; omega)
   have hsg:=signed_any (na != nb) hm
   rw[ho.out.1] at hsg
   have hvl:=ho.out.2.2.2
   rw[List.take_of_length_le (l:=a) (by rw[←HN.out.1]; exact Nat.le_refl _)] at hvl
   rw[int_mul hvl] at hsg
   have HS:=ZH hsg
   have hwr:Below w.heap.size w wr:=HAL.out.1.trans (hbw.out.mono HAL.out.1.size)
   have hbk:=(hbw.out.block bc (ZL HBL.out.2.2)).trans HBL.out.2.2
   have HWR:=ZH (ZN hwr hbk)
   clear hm hsg hvl hwr hbk
   go_wp2_with fail
   refine HS.out.mono ?_
   rintro e w4 ⟨v4,rfl,hi4,hb4⟩
   obtain ⟨s4,a4,c4,l4,rfl,-⟩:=int_sign hi4
   have hblk:=(hb4.block bc (ZL HWR.out.2)).trans HWR.out.2
   have z0:=ZI hblk 0
   have z1:=ZI hblk 1
   have f0:=ZF hblk 0
   have f1:=ZF hblk 1
   simp at z0 z1
   have hi:=(hi4.store hblk (.bool s4) (.slice a4 l4.length c4)).more (show k+M≤k1+k2 by omega)
   have hbf:Below w.heap.size w ((w4.setCell ⟨bc,0,none⟩ (.bool s4)).setCell ⟨bc,1,none⟩ (.slice a4 l4.length c4)):=((HWR.out.1.trans (hb4.mono HWR.out.1.size)).setCell HAL.out.2 _).setCell HAL.out.2 _
   have HF:=ZH (ZN hi hbf)
   clear hblk hi hbf hi4 hb4 x0 y0 x1 y1 HS
   go_wp2_with fail
   exact bodyPost_ret (v:=.agg #[.bool s4,.slice a4 l4.length c4]) (by simp[results,Tryz.results101,go_sem,z0,z1]) rfl ⟨_,rfl,HF.out⟩
theorem ofInt_u32 (a:Nat) (h:a<4294967296):(BitVec.ofInt 32 (a:Int)).toNat=a:=by
 rw[BitVec.toNat_ofInt]
 omega
theorem shift_low {d s:Nat} (hs:s<32):d*2^s%4294967296=2^s*(d%2^(32-s)):=by
 have e:(4294967296:Nat)=2^s*2^(32-s):=by rw[←Nat.pow_add,show s+(32-s)=32 by omega]
 rw[e,Nat.mul_comm d,Nat.mul_mod_mul_left]
theorem shift_or {d s c:Nat} (hs:s<32) (hc:c<2^s):c+d*2^s%4294967296<4294967296∧c ||| d*2^s%4294967296=c+d*2^s%4294967296:=by
 rw[shift_low hs]
 have h1:d%2^(32-s)<2^(32-s):=Nat.mod_lt _ (Nat.pow_pos (by omega))
 have e:(4294967296:Nat)=2^s*2^(32-s):=by rw[←Nat.pow_add,show s+(32-s)=32 by omega]
 constructor
 ·have h2:2^s*(d%2^(32-s)+1)≤2^s*2^(32-s):=Nat.mul_le_mul_left _ h1
  rw[Nat.mul_add,Nat.mul_one,←e] at h2
  omega
 ·rw[Nat.or_comm,←Nat.two_pow_add_eq_or_of_lt hc,Nat.add_comm]
theorem u32_or {d s c:Nat} (hs:s<32) (hc:c<2^s):bits .or .u32 (c:Int) ((d:Int)*2^s%4294967296)=((c+d*2^s%4294967296:Nat):Int):=by
 obtain ⟨h1,h2⟩:=shift_or (d:=d) hs hc
 have e:(d:Int)*2^s%4294967296=((d*2^s%4294967296:Nat):Int):=by simp
 rw[e]
 generalize d*2^s%4294967296=x at *
 show IntKind.u32.wrap ((BitVec.ofInt 32 (c:Int) ||| BitVec.ofInt 32 (x:Int)).toNat:Int)=_
 rw[BitVec.toNat_or,ofInt_u32 _ (by omega),ofInt_u32 _ (by omega),h2,IntKind.wrap_u32]
 omega
theorem pow_small {s:Nat} (hs:s<32):2^s≤2147483648:=Nat.pow_le_pow_right (n:=2) (by omega) (show s≤31 by omega)
theorem shift_high {d s:Nat} (hd:d<4294967296) (hs:s<32):d*2^s/4294967296<2^s∧d*2^s≤9223372036854775808:=by
 have h1:=pow_small hs
 have h2:d*2^s≤4294967296*2147483648:=Nat.mul_le_mul (by omega) h1
 have h3:d*2^s<4294967296*2^s:=Nat.mul_lt_mul_of_pos_right hd (Nat.pow_pos (by omega))
 exact ⟨Nat.div_lt_of_lt_mul h3,by omega⟩
theorem raise_step {o a:List Nat} {k s:Nat} (hk:k+1<o.length) (h:val (o.take (k+1))=2^s*val (a.take k)) :
  val (((o.set k (o.getD k 0+a.getD k 0*2^s%4294967296)).set (k+1) (a.getD k 0*2^s/4294967296)).take (k+2))=2^s*val (a.take (k+1)):=by
 rw[set_val (by simpa using hk),set_val (by omega),take_step a,Nat.mul_add,Nat.mul_add,←h,take_succ_val (l:=o) (by omega)]
 have e:=div_mod (a.getD k 0*2^s)
 have e2:pw (k+1)*(a.getD k 0*2^s/4294967296)=pw k*(4294967296*(a.getD k 0*2^s/4294967296)):=by
  simp only[pw]
  rw[Nat.mul_comm 4294967296 (pw k),Nat.mul_assoc]
 have e3:2^s*(pw k*a.getD k 0)=pw k*(a.getD k 0*2^s):=by rw[Nat.mul_left_comm,Nat.mul_comm (2^s)]
 rw[e2,e3]
 have e4:pw k*(a.getD k 0*2^s%4294967296)+pw k*(4294967296*(a.getD k 0*2^s/4294967296))=pw k*(a.getD k 0*2^s):=by rw[←Nat.mul_add,e]
 omega
theorem raised_any {w:World} {va:Value} {a:List Nat} {s:Nat} (ha:MagIn w va a) (hk:a.length≤1000000) (hs:s<32) :
  Calls Tryz.prog 201 #[va,.int .i64 s] w fun e w'=>∃g r,e=.returned (.slice (some ⟨g,0,none⟩) (a.length+1) (a.length+1))∧w.heap.size≤g∧DigRow w' g r∧Ok r∧r.length=a.length+1∧val r=2^s*val a∧Below w.heap.size w w':=by
 obtain ⟨ao,c,rfl,hc1,hc2,oa,hca⟩:=ha
 have HA:=ZH hca
 have HOA:=ZH oa
 unfold maxLen at hc2
 obtain ⟨N,hN⟩:∃N,N=a.length:=⟨_,rfl⟩
 rw[←hN] at hc1 HA hk⊢
 have HN:=ZH hN
 have hmk:=make_dig (N+1) (by omega) w
 rw[show ((N+1:Nat):Int)=(N:Int)+1 by omega] at hmk
 clear hca oa hN
 go_enter Tryz.func201,Tryz.ntmps201
 go_upto_region 2 with fail
 obtain ⟨g,hg⟩:∃g,g=w.heap.size:=⟨_,rfl⟩
 have hrow:=dig_made w (N+1)
 have hal:Below w.heap.size w (w.alloc (.cells (madeCells #[.int .u32 0] (N+1)) 145)):=(ZR _ w).alloc (Nat.le_refl _) _
 rw[←hg] at hrow
 rw[←hg]
 have HGE:=ZH (show w.heap.size≤g by omega)
 have H0:=ZH (ZN hal hrow)
 generalize w.alloc (.cells (madeCells #[.int .u32 0] (N+1)) 145)=wa at *
 clear hmk hg hal hrow
 go_wp2_with fail
 go_loopw [14] (fun i wr=>∃(k:Nat) (o:List Nat),k≤N∧i=.int .i64 k∧Hid (o.length=N+1∧DigRow wr g o∧Ok o∧o.getD k 0<2^s∧val (o.take (k+1))=2^s*val (a.take k))∧Hid (Below w.heap.size w wr)) (fun i _=>N-(intOf i).toNat)
 case atStart=>
  refine ⟨0,List.replicate (N+1) 0,Nat.zero_le _,rfl,ZH ⟨by simp,H0.out.2,ok_zero _,?_,?_⟩,ZH H0.out.1⟩
  ·simp
   exact Nat.pow_pos (by omega)
  ·simp[List.replicate_succ,val]
 case round=>
  obtain ⟨k,o,hkN,rfl,ho,hbw⟩:=hrel
  by_cases hlt:k<N
  ·obtain ⟨ba,offa,rfl,hlta,hcella⟩:=HA.out (by omega)
   have x0:=(hbw.out.cell (p:=⟨ba,offa+k,none⟩) hlta).trans (hcella k hlt)
   obtain ⟨da,hda⟩:∃d,d=a.getD k 0:=⟨_,rfl⟩
   have hda2:da<4294967296:=by rw[hda]; exact HOA.out.at k
   rw[←hda] at x0
   unfold u32V at x0
   have HDA:=ZH hda
   obtain ⟨oo,hoo⟩:∃d,d=o.getD k 0:=⟨_,rfl⟩
   have g0:=ho.out.2.1.at (i:=k) (by rw[ho.out.1]; omega)
   have g1:=World.rowIs.frozen ho.out.2.1 k
   have g2:=ho.out.2.1.at (i:=k+1) (by rw[ho.out.1]; omega)
   have g3:=World.rowIs.frozen ho.out.2.1 (k+1)
   rw[←hoo] at g0
   unfold u32V at g0 g2
   have hi0:(0:Int)≤(k:Int):=by omega
   have hi1:(k:Int)<(N:Int):=by omega
   have hi2:(k:Int)<(N:Int)+1:=by omega
   have hs0:(0:Int)≤(s:Int):=by omega
   have hs1:(s:Int)<32:=by omega
   have HOO:=ZH hoo
   clear hcella hda hoo
   go_upto_region 5 with fail
   go_region
   all_goals
    go_upto_region 6 with fail
    go_wp2_with fail
    have hoo2:oo<2^s:=by rw[HOO.out]; exact ho.out.2.2.2.1
    obtain ⟨h1,h2⟩:=shift_high hda2 hs
    obtain ⟨h3,-⟩:=shift_or (d:=da) hs hoo2
    have hst:=raise_step (k:=k) (by rw[ho.out.1]; omega) ho.out.2.2.2.2
    rw[←HDA.out,←HOO.out] at hst
    have hv1:Value.int .u32 (bits .or .u32 (oo:Int) ((da:Int)*2^s%4294967296))=u32V (oo+da*2^s%4294967296):=by
     unfold u32V
     rw[u32_or hs hoo2]
    have hv2:Value.int .u32 (IntKind.u64.wrap ((da:Int)*2^s)/4294967296%4294967296)=u32V (da*2^s/4294967296):=by
     unfold u32V
     have e:(da:Int)*2^s=((da*2^s:Nat):Int):=by simp
     rw[e,IntKind.wrap_u64]
     congr 1
     generalize da*2^s=x at *
     omega
    rw[hv1,hv2]
    have hp:=pow_small hs
    exact ⟨⟨k+1,(o.set k (oo+da*2^s%4294967296)).set (k+1) (da*2^s/4294967296),by omega,by congr 1,ZH ⟨by simp[ho.out.1],((ho.out.2.1.set (by rw[ho.out.1]; omega) _).set (by rw[List.length_set,ho.out.1]; omega) _).drew,(ho.out.2.2.1.set k h3).set (k+1) (by omega),by
     rw[List.getD_eq_getElem?_getD,List.getElem?_set_self (by rw[List.length_set,ho.out.1]; omega)]
     exact h1,hst⟩,ZH ((hbw.out.setCell HGE.out _).setCell HGE.out _).drew⟩,by simp[intOf]; omega⟩
  ·obtain rfl:k=N:=by omega
   go_wp2_with fail
   go_ret
   have h1:=ho.out.2.2.2.2
   rw[List.take_of_length_le (by rw[ho.out.1]; exact Nat.le_refl _),List.take_of_length_le (l:=a) (by rw[←HN.out]; exact Nat.le_refl _)] at h1
   exact ⟨g,o,rfl,HGE.out,ho.out.2.1,ho.out.2.2.1,ho.out.1,h1,hbw.out⟩
end Go.Proofs.YtdcaaehapdhckaaGreatDoor
