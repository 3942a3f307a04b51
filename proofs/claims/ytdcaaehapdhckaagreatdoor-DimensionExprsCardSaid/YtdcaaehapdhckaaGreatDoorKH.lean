/- Rationals: Read, Reads. -/
import Derived.Test.YtdcaaehapdhckaaGreatDoorKG
import Derived.Test.YtdcaaehapdhckaaGreatDoorKD
import Derived.Maps.OwnSet
import Derived.WalkArith
import Derived.Deep.WholeRow
set_option linter.unusedSimpArgs false
set_option linter.unusedVariables false
set_option maxRecDepth 100000
namespace Go.Proofs.YtdcaaehapdhckaaGreatDoor
open Go.RowKit Go.Num Go.Flow
set_option maxHeartbeats 4000000

theorem Read_any (s:ByteArray) (hs:s.size≤4294967280) {w:World} (hg:Glob w):Calls Tryz.prog 84 #[.string s] w (ReadPost w s.data.toList 65536):=by
 obtain ⟨wa,hwa⟩:∃wa,wa=w.alloc (.cells #[.bool false,.slice none 0 0,.bool false,.slice none 0 0] 47):=⟨_,rfl⟩
 obtain ⟨bc,hbc⟩:∃b,b=w.heap.size:=⟨_,rfl⟩
 have hal:Below w.heap.size w wa:=by rw[hwa]; exact (ZR _ w).alloc (Nat.le_refl _) _
 have hblk:wa.heap[bc]?=some (.cells #[.bool false,.slice none 0 0,.bool false,.slice none 0 0] 47 (0,0)):=by rw[hwa,hbc]; exact ZW w _
 have HGbc:=ZH (show w.heap.size≤bc by omega)
 have HR:=ZH (read_any s hs 65536 (Nat.le_refl _) (hg.below hal))
 have HW:=ZH (ZN hwa hbc)
 have HAL:=ZH (ZN hal hblk)
 clear hal hblk hwa hbc hg
 go_enter Tryz.func84,Tryz.ntmps84
 go_upto_region 1 with fail
 rw[←HW.out.1,←HW.out.2]
 clear HW
 go_wp2_with fail
 refine HR.out.mono ?_
 rintro e w1 ⟨v,rfl,hok,hno,hb1⟩
 have hB1:=HAL.out.1.trans (hb1.mono HAL.out.1.size)
 have hk1:=(hb1.block bc (ZL HAL.out.2)).trans HAL.out.2
 obtain ⟨E,hE⟩:∃E,E=readErr s.data.toList 65536:=⟨_,rfl⟩
 rw[←hE] at hok hno⊢
 have hv:∃s1 a1 c1 l1 s2 a2 c2 l2,v=.agg #[.bool s1,.slice a1 c1 l1,.bool s2,.slice a2 c2 l2]:=by
  by_cases h:E=0
  ·exact rt_shape (hok h)
  ·exact ⟨_,_,_,_,_,_,_,_,hno h⟩
 obtain ⟨s1,a1,c1,l1,s2,a2,c2,l2,rfl⟩:=hv
 have z0:=ZI hk1 0
 have z1:=ZI hk1 1
 have z2:=ZI hk1 2
 have z3:=ZI hk1 3
 have f0:=ZF hk1 0
 have f1:=ZF hk1 1
 have f2:=ZF hk1 2
 have f3:=ZF hk1 3
 simp at z0 z1 z2 z3
 have hbf:=(((hB1.setCell (p:=⟨bc,0,none⟩) HGbc.out (.bool s1)).setCell (p:=⟨bc,1,none⟩) HGbc.out (.slice a1 c1 l1)).setCell (p:=⟨bc,2,none⟩) HGbc.out (.bool s2)).setCell (p:=⟨bc,3,none⟩) HGbc.out (.slice a2 c2 l2)
 have HF:=ZH (ZN hE (ZN hno hbf))
 have HI:=ZH (show E=0→_ from fun h=>(hok h).store4 hk1 (.bool s1) (.slice a1 c1 l1) (.bool s2) (.slice a2 c2 l2))
 clear hok hno hbf hE hk1 hB1 hb1
 go_wp2_with fail
 exact bodyPost_ret (v:=.tuple #[.agg #[.bool s1,.slice a1 c1 l1,.bool s2,.slice a2 c2 l2],.int .i64 E]) (by simp[results,Tryz.results84,go_sem,z0,z1,z2,z3]) rfl ⟨_,by rw[HF.out.1],fun h=>HI.out (HF.out.1.trans h),fun h=>HF.out.2.1 (by rw[HF.out.1]; exact h),HF.out.2.2⟩
def NoDig (u:Value):Prop:=∀x,u≠.int .u32 x
theorem MagIn.keep {w:World} {g:Nat} {t:TypeId} {cs:Array Value} {v:Value} {l:List Nat} (h:MagIn w v l) (hb:w.heap[g]?=some (.cells cs t (0,0))) (hn:∀(i:Nat) (u:Value),cs[i]?=some u→NoDig u) (i:Nat) (u:Value):MagIn (w.setCell ⟨g,i,none⟩ u) v l:=by
 obtain ⟨ao,c,e,h1,h2,h3,h4⟩:=h
 refine ⟨ao,c,e,h1,h2,h3,fun h0=>?_⟩
 obtain ⟨b,off,e2,hlt,hc⟩:=h4 h0
 have hne:b≠g:=by
  rintro rfl
  have h5:=hc 0 h0
  rw[ZI hb] at h5
  exact hn _ _ h5 _ rfl
 refine ⟨b,off,e2,by simpa[World.setCell] using hlt,fun j hj=>?_⟩
 rw[←hc j hj]
 exact World.cell?_of_block (a:=⟨b,off+j,none⟩) (Below.heap_setCell _ _ _ _ hne)
theorem RtIn.keep {w:World} {g:Nat} {t:TypeId} {cs:Array Value} {v:Value} {r:Rat} {k:Nat} (h:RtIn w v r k) (hb:w.heap[g]?=some (.cells cs t (0,0))) (hn:∀(i:Nat) (u:Value),cs[i]?=some u→NoDig u) (i:Nat) (u:Value):RtIn (w.setCell ⟨g,i,none⟩ u) v r k:=by
 obtain ⟨q,⟨n1,m1,n2,m2,e,⟨a1,a2,a3,a4,a5,a6⟩,⟨b1,b2,b3,b4,b5,b6⟩,h0⟩,h2⟩:=h
 exact ⟨q,⟨n1,m1,n2,m2,e,⟨a1,a2,a3,a4,a5.keep hb hn i u,a6⟩,⟨b1,b2,b3,b4,b5.keep hb hn i u,b6⟩,h0⟩,h2⟩
theorem nodig_set {cs:Array Value} (hn:∀(i:Nat) (u:Value),cs[i]?=some u→NoDig u) (k:Nat) {v:Value} (hv:NoDig v):∀(i:Nat) (u:Value),(cs.setIfInBounds k v)[i]?=some u→NoDig u:=by
 intro i u h
 rw[Array.getElem?_setIfInBounds] at h
 split at h
 ·split at h
  ·obtain rfl:=Option.some.inj h
   exact hv
  ·cases h
 ·exact hn i u h
def RatRow (w:World) (g n:Nat) (rs:List Rat) (K:Nat):Prop:=∃cs:Array Value,w.heap[g]?=some (.cells cs 47 (0,0))∧cs.size=n*4∧(∀(i:Nat) (u:Value),cs[i]?=some u→NoDig u)∧∀j,j<rs.length→∃c0 c1 c2 c3,cs[j*4]?=some c0∧cs[j*4+1]?=some c1∧cs[j*4+2]?=some c2∧cs[j*4+3]?=some c3∧RtIn w (.agg #[c0,c1,c2,c3]) (rs.getD j 0) K
theorem RatRow.below {w w':World} {g n:Nat} {rs:List Rat} {K:Nat} (h:RatRow w g n rs K) (hb:Below w.heap.size w w'):RatRow w' g n rs K:=by
 obtain ⟨cs,h1,h2,h3,h4⟩:=h
 refine ⟨cs,(hb.block g (ZL h1)).trans h1,h2,h3,fun j hj=>?_⟩
 obtain ⟨c0,c1,c2,c3,e0,e1,e2,e3,hr⟩:=h4 j hj
 exact ⟨c0,c1,c2,c3,e0,e1,e2,e3,hr.below hb⟩
theorem RatRow.push {w:World} {g n:Nat} {rs:List Rat} {K:Nat} {r:Rat} {s1:Bool} {a1:Option Addr} {c1 l1:Nat} {s2:Bool} {a2:Option Addr} {c2 l2:Nat} (h:RatRow w g n rs K) (hk:rs.length<n) (hr:RtIn w (.agg #[.bool s1,.slice a1 c1 l1,.bool s2,.slice a2 c2 l2]) r K) :
  RatRow ((((w.setCell ⟨g,rs.length*4,none⟩ (.bool s1)).setCell ⟨g,rs.length*4+1,none⟩ (.slice a1 c1 l1)).setCell ⟨g,rs.length*4+2,none⟩ (.bool s2)).setCell ⟨g,rs.length*4+3,none⟩ (.slice a2 c2 l2)) g n (rs++[r]) K:=by
 obtain ⟨cs,h1,h2,h3,h4⟩:=h
 have k1:=heap_setCell_same w g (rs.length*4) cs _ (.bool s1) h1
 have k2:=heap_setCell_same _ g (rs.length*4+1) _ _ (.slice a1 c1 l1) k1
 have k3:=heap_setCell_same _ g (rs.length*4+2) _ _ (.bool s2) k2
 have k4:=heap_setCell_same _ g (rs.length*4+3) _ _ (.slice a2 c2 l2) k3
 have d1:=nodig_set h3 (rs.length*4) (v:=.bool s1) (fun _ h=>by cases h)
 have d2:=nodig_set d1 (rs.length*4+1) (v:=.slice a1 c1 l1) (fun _ h=>by cases h)
 have d3:=nodig_set d2 (rs.length*4+2) (v:=.bool s2) (fun _ h=>by cases h)
 have d4:=nodig_set d3 (rs.length*4+3) (v:=.slice a2 c2 l2) (fun _ h=>by cases h)
 have kp:∀{v:Value} {q:Rat},RtIn w v q K→RtIn ((((w.setCell ⟨g,rs.length*4,none⟩ (.bool s1)).setCell ⟨g,rs.length*4+1,none⟩ (.slice a1 c1 l1)).setCell ⟨g,rs.length*4+2,none⟩ (.bool s2)).setCell ⟨g,rs.length*4+3,none⟩ (.slice a2 c2 l2)) v q K:=
  fun hq=>(((hq.keep h1 h3 _ _).keep k1 d1 _ _).keep k2 d2 _ _).keep k3 d3 _ _
 refine ⟨_,k4,by simp only[Array.size_setIfInBounds]; exact h2,d4,fun j hj=>?_⟩
 rw[List.length_append,List.length_singleton] at hj
 simp only[Array.getElem?_setIfInBounds,Array.size_setIfInBounds,h2]
 by_cases hlt:j<rs.length
 ·obtain ⟨c0,c1',c2',c3,e0,e1,e2,e3,hq⟩:=h4 j hlt
  refine ⟨c0,c1',c2',c3,?_,?_,?_,?_,?_⟩
  ·rw[if_neg (by omega),if_neg (by omega),if_neg (by omega),if_neg (by omega)]; exact e0
  ·rw[if_neg (by omega),if_neg (by omega),if_neg (by omega),if_neg (by omega)]; exact e1
  ·rw[if_neg (by omega),if_neg (by omega),if_neg (by omega),if_neg (by omega)]; exact e2
  ·rw[if_neg (by omega),if_neg (by omega),if_neg (by omega),if_neg (by omega)]; exact e3
  ·rw[show (rs++[r]).getD j 0=rs.getD j 0 by rw[List.getD_eq_getElem?_getD,List.getD_eq_getElem?_getD,List.getElem?_append_left hlt]]
   exact kp hq
 ·obtain rfl:j=rs.length:=by omega
  refine ⟨.bool s1,.slice a1 c1 l1,.bool s2,.slice a2 c2 l2,?_,?_,?_,?_,?_⟩
  ·rw[if_neg (by omega),if_neg (by omega),if_neg (by omega),if_pos rfl,if_pos (by omega)]
  ·rw[if_neg (by omega),if_neg (by omega),if_pos rfl,if_pos (by omega)]
  ·rw[if_neg (by omega),if_pos rfl,if_pos (by omega)]
  ·rw[if_pos rfl,if_pos (by omega)]
  ·rw[show (rs++[r]).getD rs.length 0=r by rw[List.getD_eq_getElem?_getD,List.getElem?_append_right (Nat.le_refl _)]; simp]
   exact kp hr
theorem ratrow_made (w:World) (n K:Nat):RatRow (w.alloc (.cells (madeCells #[.bool false,.slice none 0 0,.bool false,.slice none 0 0] (n*4)) 47)) w.heap.size n [] K:=by
 refine ⟨_,ZW w _,by unfold madeCells; simp,fun i u h=>?_,fun j hj=>absurd hj (by simp)⟩
 unfold madeCells at h
 rw[Array.getElem?_map] at h
 obtain ⟨a,ha,hu⟩:=Option.map_eq_some_iff.1 h
 have h4:a%4=0∨a%4=1∨a%4=2∨a%4=3:=by omega
 intro x hx
 rw[←hu] at hx
 simp only[List.size_toArray,List.length_cons,List.length_nil] at hx
 rcases h4 with h | h | h | h<;>(rw[show 0+1+1+1+1=4 from rfl,h] at hx; cases hx)
def readsErr : List ByteArray→Int
 | []=>0
 | s::r=>if readErr s.data.toList 65536=0 then readsErr r else readErr s.data.toList 65536
def readsVal (l:List ByteArray):List Rat:=l.map fun s=>readVal s.data.toList
theorem reads_err : ∀(l:List ByteArray) (k:Nat),k<l.length→(∀j,j<k→readErr (l.getD j ⟨#[]⟩).data.toList 65536=0)→readErr (l.getD k ⟨#[]⟩).data.toList 65536≠0→readsErr l=readErr (l.getD k ⟨#[]⟩).data.toList 65536:=by
 intro l
 induction l with
 | nil=>intro k hk; simp at hk
 | cons s r ih=>
  intro k hk h1 h2
  cases k with
  | zero=>
   unfold readsErr
   rw[if_neg (by simpa using h2)]
   rfl
  | succ k=>
   unfold readsErr
   rw[if_pos (by simpa using h1 0 (by omega))]
   exact ih k (by simpa using hk) (fun j hj=>by simpa using h1 (j+1) (by omega)) (by simpa using h2)
theorem reads_ok : ∀(l:List ByteArray),(∀j,j<l.length→readErr (l.getD j ⟨#[]⟩).data.toList 65536=0)→readsErr l=0:=by
 intro l
 induction l with
 | nil=>intro _; rfl
 | cons s r ih=>
  intro h
  unfold readsErr
  rw[if_pos (by simpa using h 0 (by simp))]
  exact ih (fun j hj=>by simpa using h (j+1) (by simpa using hj))
theorem reads_take (l:List ByteArray) {k:Nat} (hk:k<l.length):readsVal (l.take (k+1))=readsVal (l.take k)++[readVal (l.getD k ⟨#[]⟩).data.toList]:=by
 unfold readsVal
 rw[List.take_add_one,List.getElem?_eq_getElem hk,List.map_append,List.getD_eq_getElem?_getD,List.getElem?_eq_getElem hk]
 rfl
def TxtIn (w:World) (v:Value) (l:List ByteArray):Prop:=∃ao c,v=.slice ao l.length c∧l.length≤c∧c≤maxLen∧(0<l.length→∃b off,ao=some ⟨b,off,none⟩∧b<w.heap.size∧∀j,j<l.length→w.cell? ⟨b,off+j,none⟩=some (.string (l.getD j ⟨#[]⟩)))
theorem infoRat : (Tryz.prog.info? 47).map (fun i=>(i.zero,i.size,i.bytes))=some (some (.agg #[.bool false,.slice none 0 0,.bool false,.slice none 0 0]),4,64):=by kernel_rfl
theorem run_make_rat (n:Nat) (hn:n≤16777216) (w:World):(Instr.makeSlice 61 (.int .i64 (n:Int)) (.int .i64 (n:Int))).run Tryz.prog w=.ok (.slice (some ⟨w.heap.size,0,none⟩) n n) (w.alloc (.cells (madeCells #[.bool false,.slice none 0 0,.bool false,.slice none 0 0] (n*4)) 47)):=by
 obtain ⟨i,hi,hz,hs,hb⟩:∃i,Tryz.prog.info? 47=some i∧i.zero=some (.agg #[.bool false,.slice none 0 0,.bool false,.slice none 0 0])∧i.size=4∧i.bytes=64:=by
  have h:=infoRat
  cases hq:Tryz.prog.info? 47 with
  | none=>rw[hq] at h; cases h
  | some i=>
   rw[hq] at h
   simp only[Option.map_some,Option.some.injEq,Prod.mk.injEq] at h
   exact ⟨i,rfl,h⟩
 have hr:=run_make (P:=Tryz.prog) w 61 47 i _ Tryz.underlying61 hi hz .i64 .i64 n n (by omega) (by omega) (by rw[hb]; omega) (by omega)
 simp only[Int.toNat_natCast,hs] at hr
 exact hr
def RatsIn (w:World) (v:Value) (rs:List Rat) (K:Nat):Prop:=∃g n,v=.slice (some ⟨g,0,none⟩) n n∧n=rs.length∧RatRow w g n rs K
end Go.Proofs.YtdcaaehapdhckaaGreatDoor
set_option maxRecDepth 100000
namespace Go.Proofs.YtdcaaehapdhckaaGreatDoor
open Go.RowKit Go.Num Go.Flow Go.Maps Go.WideMaps
set_option maxHeartbeats 4000000

def asIs (v:Value):Option (DataW Value×List MemPlace):=some (.held v,[])
def zeroRat : Value:=.agg #[.bool false,.slice none 0 0,.bool false,.slice none 0 0]
theorem zeroRat_run (w:World):(zeroValue 47).run Tryz.prog w=.ok zeroRat w:=(zero_of_info (n:=4) (show (Tryz.prog.info? 47).map (fun i=>(i.zero,i.size))=some (some zeroRat,4) by kernel_rfl)).1 w
theorem zero_rt (w:World) (K:Nat):RtIn w zeroRat 0 K:=rt_int ⟨_,_,_,_,rfl,int_nil _ _,int_nil _ _,by decide⟩
def RMapIn (w:World) (b n:Nat) (K:Nat) (m:Int→Option Rat):Prop:=∃D:DataW Value,w.ownsMap Tryz.prog 3 asIs b n D∧∀i:Int,match m i with
 | none=>Maps.has D (.int .i64 i)=false
 | some r=>Maps.has D (.int .i64 i)=true∧∃v,(∀z,D.atKey (.int .i64 i) z=.held v)∧RtIn w v r K
theorem rmap_made (w:World) (K:Nat):RMapIn (w.alloc (.map #[] 0)) w.heap.size 0 K fun _=>none:=
 ⟨.map [],World.ownsMap_made _ _ _ _,fun _=>rfl⟩
theorem RMapIn.below {w w':World} {b n K:Nat} {m:Int→Option Rat} (h:RMapIn w b n K m) (hb:Below w.heap.size w w'):RMapIn w' b n K m:=by
 obtain ⟨D,⟨es,clock,h1,h2⟩,h3⟩:=h
 have hlt:b<w.heap.size:=by
  rcases Nat.lt_or_ge b w.heap.size with h | h
  ·exact h
  ·rw[Array.getElem?_eq_none h] at h1; cases h1
 refine ⟨D,⟨es,clock,(hb.block b hlt).trans h1,h2⟩,fun i=>?_⟩
 have h4:=h3 i
 cases hm:m i with
 | none=>rw[hm] at h4; exact h4
 | some r=>
  rw[hm] at h4
  obtain ⟨h5,v,h6,h7⟩:=h4
  exact ⟨h5,v,h6,h7.below hb⟩
theorem key_int {i:Int} (h0:-9223372036854775808≤i) (h1:i≤9223372036854775807):keyOf Tryz.prog 3 (.int .i64 i)=some (.int .i64 i):=keyOf_int_mk Tryz.underlying3 (WalkArith.wf_i64 ⟨h0,h1⟩)
theorem RMapIn.put {w w':World} {b n K:Nat} {m:Int→Option Rat} (h:RMapIn w b n K m) {i:Int} {v:Value} {r:Rat} (hr:RtIn w' v r K) (hk:WideAt.IsKeyLit (.int .i64 i)) (hm:∀j s,m j=some s→∀u,RtIn w u s K→RtIn w' u s K)
  (hD:∀D:DataW Value,w.ownsMap Tryz.prog 3 asIs b n D→w'.ownsMap Tryz.prog 3 asIs b (n+1) (D.put (.int .i64 i) (.held v))):RMapIn w' b (n+1) K fun j=>if j=i then some r else m j:=by
 obtain ⟨D,h1,h2⟩:=h
 have hmap:=World.ownsMap.isMap h1
 refine ⟨D.put (.int .i64 i) (.held v),hD D h1,fun j=>?_⟩
 by_cases hj:j=i
 ·subst hj
  simp only[if_pos]
  exact ⟨Maps.has_put_same hmap hk _,v,fun z=>Maps.atKey_put_same hmap hk _ z,hr⟩
 ·simp only[if_neg hj]
  have hne:(Lit.int .i64 j)≠.int .i64 i:=fun h=>hj (by cases h; rfl)
  have h3:=h2 j
  cases hmj:m j with
  | none=>
   rw[hmj] at h3
   exact (Maps.has_put_other hne _).trans h3
  | some s=>
   rw[hmj] at h3
   obtain ⟨h4,u,h5,h6⟩:=h3
   exact ⟨(Maps.has_put_other hne _).trans h4,u,fun z=>(Maps.atKey_put_other hne _ z).trans (h5 z),hm j s hmj u h6⟩
end Go.Proofs.YtdcaaehapdhckaaGreatDoor
