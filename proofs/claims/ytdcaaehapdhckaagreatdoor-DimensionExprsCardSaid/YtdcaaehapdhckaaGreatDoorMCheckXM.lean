/- dimension.CheckExpr: the first error of an expression. -/
import Derived.Test.YtdcaaehapdhckaaGreatDoorXIterM
import Derived.Test.YtdcaaehapdhckaaGreatDoorEB
import Derived.Test.YtdcaaehapdhckaaGreatDoorMNodeM
set_option linter.unusedSimpArgs false
set_option linter.unusedVariables false
set_option maxRecDepth 100000
namespace Go.Proofs.YtdcaaehapdhckaaGreatDoor
open Go.RowKit Go.Num Go.Flow Go.Shelf
attribute [local go_sem] Oper.semAt_some
set_option maxHeartbeats 8000000
set_option linter.unusedVariables false

mutual
theorem nodes_few : ∀{k:Nat} {x:Ex} {lev:Nat} {p:Nat×Ex},FewE k x→p∈nodesE lev x→∃j,FewE (j+1) p.2
 | 0,x,_,_,h,_=>by rw[FewE] at h; exact h.elim
 | k+1,.mk o c t f a,lev,p,h,hp=>by
  rw[nodesE] at hp
  rcases List.mem_cons.1 hp with rfl | hp
  ·exact ⟨k,h⟩
  ·rw[FewE] at h
   exact nodesL_few h.2.2 hp
theorem nodesL_few : ∀{k:Nat} {l:List Ex} {lev:Nat} {p:Nat×Ex},FewL k l→p∈nodesL lev l→∃j,FewE (j+1) p.2
 | k,[],_,_,_,hp=>by rw[nodesL] at hp; simp at hp
 | k,x::l,lev,p,h,hp=>by
  rw[FewL] at h
  rw[nodesL] at hp
  rcases List.mem_append.1 hp with hp | hp
  ·exact nodes_few h.1 hp
  ·exact nodesL_few h.2 hp
end
theorem few_len2 {k:Nat} {x:Ex} (h:FewE (k+1) x):x.c.length≤4294967280∧x.f.length≤4294967280∧∀p,p∈x.t→p.2.length≤4294967280:=by
 have h1:=(fewE_eq k x).1 h
 refine ⟨by have:=h1.1.2.2; omega,by have:=h1.2.1; omega,fun p hp=>?_⟩
 obtain ⟨j,hj,rfl⟩:=List.getElem_of_mem hp
 have h2:=h1.1.1 j hj
 rw[List.getD_eq_getElem?_getD,List.getElem?_eq_getElem hj] at h2
 simp only[Option.getD_some] at h2
 omega
theorem own_cells {B b:Nat} {cs:Array Value} {t:TypeId} {X Y:World} {row:Option Nat} (h:X.heap[b]?=some (.cells cs t (0,0))) (hg:X.grownBy Y row) (hr:∀r,row=some r→B≤r∧∃o:Obj,X.heap[r]?=some o∧o.isCells=false):Y.heap[b]?=some (.cells cs t (0,0)):=by
 refine (hg.block b (ZL h) (fun e=>?_)).trans h
 obtain ⟨o,ho,hc⟩:=(hr b e.symm).2
 rw[h] at ho
 cases ho
 cases hc
theorem one_setX {w:World} {b:Nat} {x:Value} {t:TypeId} (h:w.heap[b]?=some (.cells #[x] t (0,0))) (u:Value):(w.setCell ⟨b,0,none⟩ u).heap[b]?=some (.cells #[u] t (0,0)):=by
 have hlt:=ZL h
 have h':w.heap[b]=.cells #[x] t (0,0):=by simpa[Array.getElem?_eq_getElem hlt] using h
 show (w.heap.modify b _)[b]?=_
 rw[Array.getElem?_eq_getElem (by simpa using hlt),Array.getElem_modify_self,h']
 rfl
theorem mCheckExpr_any {w:World} (hg:Glob w) {k:Nat} {x:Ex} (hx:FewE k x) (hk:k≤900000) {vx:Value} (hex:ExIn w x vx) (n:Int):Calls Tryz.prog 25 #[vx,.int .i64 n] w fun e w'=>e=.returned (.int .i64 (exprErr x n))∧Below w.heap.size w w':=by
 obtain ⟨tx,ax,cx,rfl,htx,-⟩:=hex.out
 obtain ⟨tax,tcx,rfl,-,-,-⟩:=id htx
 have hat:=hex.at
 obtain ⟨sx,hsx⟩:∃s:ByteArray,s=⟨x.c.toArray⟩:=⟨_,rfl⟩
 obtain ⟨fx,hfx⟩:∃s:ByteArray,s=⟨x.f.toArray⟩:=⟨_,rfl⟩
 obtain ⟨tn,htn⟩:∃q,q=x.t.length:=⟨_,rfl⟩
 obtain ⟨an,han⟩:∃q,q=x.a.length:=⟨_,rfl⟩
 obtain ⟨ox,hox⟩:∃q,q=x.op:=⟨_,rfl⟩
 obtain ⟨E,hE⟩:∃q,q=exprErr x n:=⟨_,rfl⟩
 rw[←hE]
 rw[←hsx,←hfx,←htn,←han,←hox] at hat⊢
 obtain ⟨wa,bx,bn,be,hwa,hbx,hbn,hbe,hal,k0,k1,k2⟩:=new_three w #[.int .i64 ox,.string sx,.slice tax tn tcx,.string fx,.slice ax an cx] #[.int .i64 n] #[.int .i64 0] 30 3 41
 have HE:=ZH hE
 have HG:=ZH hg
 have HX:=ZH (ZN hx hk)
 have HAT:=ZH hat
 have HAL:=ZH hal
 have HK:=ZH (ZN k0 (ZN k1 k2))
 have HNE:=ZH (show bx≠be∧bn≠be∧w.heap.size≤be∧w.heap.size≤bx∧w.heap.size≤bn by omega)
 have HW:=ZH (ZN hwa (ZN hbx (ZN hbn hbe)))
 clear hwa hbx hbn hbe hal k0 k1 k2 hg hx hk hat hsx hfx htn han hox hE htx hex
 refine (callsIn_wide (n:=3)).1 ?_
 refine callsIn_of_wp_marks Tryz.func25 rfl trivial ?_ rfl
 simp only[Tryz.ntmps25,List.size_toArray,List.length_cons,List.length_nil,Nat.reduceAdd,Nat.reduceSub,Array.replicate_succ,Array.replicate_zero,List.push_toArray,List.append_toArray,List.nil_append,List.cons_append]
 gi_upto_region 1 with fail
 rw[←HW.out.1,←HW.out.2.2.2,←HW.out.2.2.1,←HW.out.2.1]
 clear HW
 have y1:=cells1 (ZR _ wa) HK.out.2.1
 have f2:=ZF HK.out.2.2 0
 have y2:=cells1 (ZR _ wa) HK.out.2.2
 have HR:=ZH (fun (u:Int)=>ZN (one_setX HK.out.2.2 (.int .i64 u)) (HAL.out.setCell (p:=⟨be,0,none⟩) HNE.out.2.2.1 (.int .i64 u)))
 by_cases h0:n<0
 ·have e1:(n<0)=True:=eq_true h0
  have HF:=ZH (show E=2 by rw[HE.out]; unfold exprErr; rw[if_pos (Or.inl h0)])
  have z:=cells1 (ZR _ _) (HR.out 2).1
  clear h0
  gi_wp2
  exact ⟨.int .i64 2,by simp[results,Tryz.results25,go_sem,z],by rw[HF.out],(HR.out 2).2⟩
 have e1:(n<0)=False:=eq_false h0
 by_cases h1:64<n
 ·have e2:(64<n)=True:=eq_true h1
  have HF:=ZH (show E=2 by rw[HE.out]; unfold exprErr; rw[if_pos (Or.inr h1)])
  have z:=cells1 (ZR _ _) (HR.out 2).1
  clear h0 h1
  gi_wp2
  exact ⟨.int .i64 2,by simp[results,Tryz.results25,go_sem,z],by rw[HF.out],(HR.out 2).2⟩
 have e2:(64<n)=False:=eq_false h1
 have HF:=ZH (show E=scanErr n 0 (nodesE 1 x) by rw[HE.out]; unfold exprErr; rw[if_neg (by omega)])
 clear h0 h1 HR
 gi_upto_region 4 with fail
 obtain ⟨wb,bc,hwb,hbc,hlb,kb⟩:=new_box wa #[.int .i64 0] 3
 rw[←hwb,←hbc]
 obtain ⟨x0,x1,x2,x3,x4⟩:=cells5 hlb HK.out.1
 have HBC:=ZH (ZN hlb (ZN kb (show wa.heap.size≤bc by omega)))
 clear hwb hbc hlb kb y1 f2 y2 e1 e2
 gi_wp2_with (refine ⟨trivial,?_⟩; (try refine ⟨fun h=>absurd h (by simp[Fence.wide]),?_⟩); gi_at_call 43; refine (callsIn_wide.2 (nodes_any _ _ _ _ _ _ _)).mono ?_; rintro e w5 ⟨rfl,rfl⟩)
 obtain ⟨w5,bxn,bln,hw5,hbxn,hbln,hl5,kxn,kln⟩:=new_two wb #[.int .i64 ox,.string sx,.slice tax tn tcx,.string fx,.slice ax an cx] #[.int .i64 1] 30 3
 rw[←hw5,←hbln,←hbxn]
 have hs0:=HAL.out.size
 have hs1:=HBC.out.1.size
 have hs5:=hl5.size
 have hb5:=HAL.out.trans ((HBC.out.1.trans (hl5.mono hs1)).mono hs0)
 have hlc:=ZL HBC.out.2.1
 have hle:=ZL HK.out.2.2
 have hat5:=HAT.out.keep (Keep.of_below hb5)
 have hkc5:=(hl5.block bc hlc).trans HBC.out.2.1
 have hke5:=(hl5.block be (by omega)).trans ((HBC.out.1.block be hle).trans HK.out.2.2)
 have hkn5:=(hl5.block bn (by have:=ZL HK.out.2.1; omega)).trans ((HBC.out.1.block bn (ZL HK.out.2.1)).trans HK.out.2.1)
 have HB5:=ZH (ZN hb5 (ZN hkc5 (ZN hke5 hkn5)))
 have HSZ:=ZH (show w.heap.size≤be∧w.heap.size≤bc∧be<w5.heap.size∧bc<w5.heap.size∧be≠bc∧bn≠be∧bn≠bc∧w.heap.size≤w5.heap.size∧bln≠be∧bln≠bc∧bxn≠be∧bxn≠bc by
  have h1:=HNE.out
  have h2:=HBC.out.2.2
  have h3:=ZL HK.out.2.1
  omega)
 clear hw5 hs0 hs1 hs5 hb5 hlc hle hkc5 hke5 hkn5 hbxn hbln hl5 x0 x1 x2 x3 x4
 refine wpIn_nodes (F:=Fence.wide) rfl rfl rfl trivial (enters_of Tryz.func86 (by kernel_rfl) rfl) (nodes1_in k x 1 _ bln bxn (few_dep HX.out.1).1 (by have:=HX.out.2; omega)) (fun b=>b=be∨b=bc) (fun b h=>by have:=HSZ.out; rcases h with rfl | rfl<;>omega) ?nd rfl
  (fun pre W'=>((W'.heap[bc]?=some (.cells #[.int .i64 ((pre.length:Nat):Int)] 3 (0,0))∧W'.heap[be]?=some (.cells #[.int .i64 0] 41 (0,0)))∧W'.heap[bn]?=some (.cells #[.int .i64 n] 3 (0,0)))∧(scanErr n 0 pre=0∧pre.length≤64)∧Below w.heap.size w W')
  (fun c pre W'=>(c=.ret∧scanErr n 0 pre≠0)∧W'.heap[be]?=some (.cells #[.int .i64 (scanErr n 0 pre)] 41 (0,0))∧Below w.heap.size w W') ?oi ?ox ⟨⟨⟨HB5.out.2.1,HB5.out.2.2.1⟩,HB5.out.2.2.2⟩,⟨rfl,by simp⟩,HB5.out.1⟩
  (fun lv z v a' W'=>∃(B7:Nat) (q0 q1 q2 q3 q4:Value),v=.agg #[q0,q1,q2,q3,q4]∧W'.heap[B7]?=some (.cells #[q0,q1,q2,q3,q4] 30 (0,0))∧a' = { tmps:=#[Value.agg #[.int .i64 ox,.string sx,.slice tax tn tcx,.string fx,.slice ax an cx],Value.int IntKind.i64 n,Value.pointer (some ⟨bx,0,none⟩),Value.pointer (some ⟨bn,0,none⟩),Value.pointer (some ⟨be,0,none⟩),Value.pointer (some ⟨bc,0,none⟩),Value.int IntKind.i64 ((lv:Nat):Int),Value.pointer (some ⟨B7,0,none⟩),undef,Value.int IntKind.i64 n,Value.bool false,Value.bool false,Value.int IntKind.i64 n,Value.bool false,Value.bool false,Value.agg #[.int .i64 ox,.string sx,.slice tax tn tcx,.string fx,.slice ax an cx],Value.func (Fn.func 86) #[] #[Value.pointer (some ⟨bln,0,none⟩),Value.pointer (some ⟨bxn,0,none⟩)],Value.int IntKind.i64 ((lv:Nat):Int),v,undef,undef,undef,undef,undef,undef,undef,undef,undef,undef,undef,undef],defers:=[] }) ?oa ?assign ?body ?done ?stop
 case nd=>
  intro A' W' h1 hb
  have k1:=(hb.block bln (ZL kln)).trans kln
  have k2:=(hb.block bxn (ZL kxn)).trans kxn
  exact ⟨h1 _ (fun h=>by have:=HSZ.out; rcases h with h | h<;>omega) (ZL kln),h1 _ (fun h=>by have:=HSZ.out; rcases h with h | h<;>omega) (ZL kxn),k1,_,_,_,_,_,k2,(hat5.mono fun b hb' hlt=>h1 b (fun h=>by have:=HSZ.out; rcases h with h | h<;>omega) hlt).keep (Keep.of_below hb)⟩
 case oi=>
  exact OwnFrom.and (OwnFrom.and (OwnFrom.and (fun s X Y row hs hg hr=>own_cells hs hg hr) (fun s X Y row hs hg hr=>own_cells hs hg hr)) (fun s X Y row hs hg hr=>own_cells hs hg hr)) (OwnFrom.and (ownFrom_pure _ _) (ownFrom_below (Nat.le_refl _) (by have:=HSZ.out; omega)))
 case ox=>exact fun c=>OwnFrom.and (ownFrom_pure _ _) (OwnFrom.and (fun s X Y row hs hg hr=>own_cells hs hg hr) (ownFrom_below (Nat.le_refl _) (by have:=HSZ.out; omega)))
 case oa=>
  rintro lv z v a' s X Y row ⟨B7,q0,q1,q2,q3,q4,h2,h3,h4⟩ hg hr
  exact ⟨B7,q0,q1,q2,q3,q4,h2,own_cells h3 hg hr,h4⟩
 case assign=>
  rintro l' pre lv z v W' ⟨⟨⟨hc,he⟩,hn⟩,hp,hB⟩ hz hpre
  obtain ⟨ztv,za,zc,rfl,hzt,-⟩:=id hz.out
  obtain ⟨zta,ztc,rfl,-⟩:=hzt
  obtain ⟨zo,hzo⟩:∃q,q=z.op:=⟨_,rfl⟩
  obtain ⟨zs0,hzs0⟩:∃s:ByteArray,s=⟨z.c.toArray⟩:=⟨_,rfl⟩
  obtain ⟨zs1,hzs1⟩:∃s:ByteArray,s=⟨z.f.toArray⟩:=⟨_,rfl⟩
  obtain ⟨ztn,hztn⟩:∃q,q=z.t.length:=⟨_,rfl⟩
  obtain ⟨zan,hzan⟩:∃q,q=z.a.length:=⟨_,rfl⟩
  rw[←hzo,←hzs0,←hzs1,←hztn,←hzan]
  have HNEW:=ZH (show ∀(cs:Array Value),Keep (fun b=>¬(b=be∨b=bc)) W' (W'.alloc (.cells cs 30))∧((((W'.alloc (.cells cs 30)).heap[bc]?=some (.cells #[.int .i64 ((pre.length:Nat):Int)] 3 (0,0))∧(W'.alloc (.cells cs 30)).heap[be]?=some (.cells #[.int .i64 0] 41 (0,0)))∧(W'.alloc (.cells cs 30)).heap[bn]?=some (.cells #[.int .i64 n] 3 (0,0)))∧(scanErr n 0 pre=0∧pre.length≤64)∧Below w.heap.size w (W'.alloc (.cells cs 30)))∧(W'.alloc (.cells cs 30)).heap[W'.heap.size]?=some (.cells cs 30 (0,0)) from fun cs=>by
   have h1:Below W'.heap.size W' (W'.alloc (.cells cs 30)):=(ZR _ W').alloc (Nat.le_refl _) _
   exact ⟨Keep.of_below h1,⟨⟨⟨(h1.block bc (ZL hc)).trans hc,(h1.block be (ZL he)).trans he⟩,(h1.block bn (ZL hn)).trans hn⟩,hp,hB.trans (h1.mono hB.size)⟩,ZW W' _⟩)
  clear hzo hzs0 hzs1 hztn hzan hc he hp hB hn
  gi_wp2
  exact ⟨(HNEW.out _).1,(HNEW.out _).2.1,W'.heap.size,_,_,_,_,_,rfl,(HNEW.out _).2.2,rfl⟩
 case body=>
  rintro l' pre lv z v a' W' ⟨⟨⟨hc,he⟩,hn⟩,⟨hp0,hp64⟩,hB⟩ ⟨B7,q0,q1,q2,q3,q4,rfl,hk7,rfl⟩ hz hpre
  obtain ⟨cnt,hcnt⟩:∃q,q=pre.length:=⟨_,rfl⟩
  rw[←hcnt] at hc hp64
  obtain ⟨j,hfz⟩:=nodes_few (p:=(lv,z)) HX.out.1 (hpre.subset (List.mem_append.2 (Or.inr (List.mem_singleton.2 rfl))))
  have hls:=few_len2 hfz
  obtain ⟨NE,hNE⟩:∃q,q=nodeErr z n:=⟨_,rfl⟩
  have hsc:scanErr n 0 (pre++[(lv,z)])=if 64≤cnt then 6 else if 8<lv then 15 else if NE≠0 then NE else 0:=by rw[scan_append,if_neg (by rw[hp0]; simp),Nat.zero_add,←hcnt,scanErr,scanErr,←hNE]
  have hnd:=mnode_any (HG.out.below hB) hz.reads hls.1 hls.2.1 hls.2.2 n
  rw[←hNE] at hnd
  have hst:∀(W:World) (u:Int),W.heap[be]?=some (.cells #[.int .i64 0] 41 (0,0))→Below w.heap.size w W→Keep (fun b=>¬(b=be∨b=bc)) W (W.setCell ⟨be,0,none⟩ (.int .i64 u))∧(W.setCell ⟨be,0,none⟩ (.int .i64 u)).heap[be]?=some (.cells #[.int .i64 u] 41 (0,0))∧Below w.heap.size w (W.setCell ⟨be,0,none⟩ (.int .i64 u)):=fun W u h1 h2=>⟨⟨by simp[World.setCell],fun b hb _=>Below.heap_setCell _ _ _ _ (fun e=>hb (.inl e))⟩,one_setX h1 _,h2.setCell (p:=⟨be,0,none⟩) HSZ.out.1 _⟩
  have HSC:=ZH hsc
  have HND:=ZH hnd
  have HST:=ZH hst
  have HC:=ZH (ZN hc (ZN he (ZN hn hB)))
  have HP:=ZH (ZN hcnt (ZN hp64 hk7))
  have y1:=cells1 (ZR _ W') hc
  have y2:=cells1 (ZR _ W') he
  have f2:=ZF he 0
  have y3:=cells1 (ZR _ W') hn
  obtain ⟨z0,z1,z2,z3,z4⟩:=cells5 (ZR _ W') hk7
  have h1r:1≤(3:Nat)-1-1:=by omega
  clear hc he hn hB hcnt hp0 hls hNE hsc hnd hst hz hk7 hfz hpre
  by_cases h64:cnt=64
  ·have e1:((cnt:Int)==64)=true:=by simp; omega
   have e2:(cnt==64)=true:=by simp; omega
   have HX9:=ZH (show scanErr n 0 (pre++[(lv,z)])=6 by rw[HSC.out,if_pos (by omega)])
   clear h64
   gi_wp2
   exact ⟨(HST.out W' 6 HC.out.2.1 HC.out.2.2.2).1,⟨rfl,by rw[HX9.out]; omega⟩,by rw[HX9.out]; exact (HST.out W' 6 HC.out.2.1 HC.out.2.2.2).2.1,(HST.out W' 6 HC.out.2.1 HC.out.2.2.2).2.2⟩
  have e1:((cnt:Int)==64)=false:=by simp; omega
  have e2:(cnt==64)=false:=by simp; omega
  by_cases h8:8<lv
  ·have e3:((8:Int)<(lv:Int))=True:=eq_true (by omega)
   have HX9:=ZH (show scanErr n 0 (pre++[(lv,z)])=15 by rw[HSC.out,if_neg (by have:=HP.out; omega),if_pos h8])
   clear h64 h8
   gi_wp2
   exact ⟨(HST.out W' 15 HC.out.2.1 HC.out.2.2.2).1,⟨rfl,by rw[HX9.out]; omega⟩,by rw[HX9.out]; exact (HST.out W' 15 HC.out.2.1 HC.out.2.2.2).2.1,(HST.out W' 15 HC.out.2.1 HC.out.2.2.2).2.2⟩
  have e3:((8:Int)<(lv:Int))=False:=eq_false (by omega)
  have HSC2:=ZH (show scanErr n 0 (pre++[(lv,z)])=if NE≠0 then NE else 0 by rw[HSC.out,if_neg (by have:=HP.out; omega),if_neg h8])
  have HP2:=ZH (show cnt+1≤64 by have:=HP.out; omega)
  clear h64 h8 HSC
  by_cases hne:NE=0
  case neg=>
   have e4:(NE==0)=false:=by simpa using hne
   have e5:(NE != 0)=true:=by simpa using hne
   have HX9:=ZH (ZN (show scanErr n 0 (pre++[(lv,z)])=NE by rw[HSC2.out,if_pos hne]) hne)
   clear hne
   gi_wp2_with (refine ⟨trivial,?_⟩; (try refine ⟨fun h=>absurd h (by simp[Fence.wide]),?_⟩); gi_at_call 63; refine (CallsIn.inRound l' (callsIn_wide.2 HND.out)).mono ?_; rintro e w2 ⟨rfl,hb2⟩; have HB2:=ZH hb2; have y1:=cells1 hb2 HC.out.1; have y2:=cells1 hb2 HC.out.2.1; have f1:=ZF ((hb2.block bc (ZL HC.out.1)).trans HC.out.1) 0; have f2:=ZF ((hb2.block be (ZL HC.out.2.1)).trans HC.out.2.1) 0; clear hb2)
   have h9:=HST.out w2 NE ((HB2.out.block be (ZL HC.out.2.1)).trans HC.out.2.1) (HC.out.2.2.2.trans (HB2.out.mono HC.out.2.2.2.size))
   exact ⟨(Keep.of_below HB2.out).trans h9.1,⟨rfl,by rw[HX9.out.1]; exact HX9.out.2⟩,by rw[HX9.out.1]; exact h9.2.1,h9.2.2⟩
  have e4:(NE==0)=true:=by rw[hne]; rfl
  have e5:(NE != 0)=false:=by rw[hne]; rfl
  have HX9:=ZH (show scanErr n 0 (pre++[(lv,z)])=0 by rw[HSC2.out,if_neg (by simpa using hne)])
  have hw1:IntKind.i64.wrap ((cnt:Int)+1)=(cnt:Int)+1:=IntWalk.i64_in _ (by have:=HP2.out; omega)
  have hw2:wrap64 ((cnt:Int)+1)=(cnt:Int)+1:=IntWalk.wrap64_in _ (by have:=HP2.out; omega)
  clear hne
  gi_wp2_with (refine ⟨trivial,?_⟩; (try refine ⟨fun h=>absurd h (by simp[Fence.wide]),?_⟩); gi_at_call 63; refine (CallsIn.inRound l' (callsIn_wide.2 HND.out)).mono ?_; rintro e w2 ⟨rfl,hb2⟩; have HB2:=ZH hb2; have y1:=cells1 hb2 HC.out.1; have y2:=cells1 hb2 HC.out.2.1; have f1:=ZF ((hb2.block bc (ZL HC.out.1)).trans HC.out.1) 0; have f2:=ZF ((hb2.block be (ZL HC.out.2.1)).trans HC.out.2.1) 0; clear hb2)
  have hbc2:=(HB2.out.block bc (ZL HC.out.1)).trans HC.out.1
  have hbe2:=(HB2.out.block be (ZL HC.out.2.1)).trans HC.out.2.1
  have hbn2:=(HB2.out.block bn (ZL HC.out.2.2.1)).trans HC.out.2.2.1
  have hB2:=HC.out.2.2.2.trans (HB2.out.mono HC.out.2.2.2.size)
  refine ⟨(Keep.of_below HB2.out).trans ⟨by simp[World.setCell],fun b hb _=>Below.heap_setCell _ _ _ _ (fun e=>hb (.inr e))⟩,⟨⟨?_,?_⟩,?_⟩,⟨HX9.out,?_⟩,hB2.setCell (p:=⟨bc,0,none⟩) HSZ.out.2.1 _⟩
  ·rw[List.length_append,←HP.out.1]
   exact one_setX hbc2 _
  ·exact (Below.heap_setCell _ _ _ _ (fun e=>HSZ.out.2.2.2.2.1 e)).trans hbe2
  ·exact (Below.heap_setCell _ _ _ _ (fun e=>HSZ.out.2.2.2.2.2.2.1 e)).trans hbn2
  ·rw[List.length_append,←HP.out.1]
   exact HP2.out
 case done=>
  rintro D W' hD ⟨⟨⟨hc,he⟩,hn⟩,⟨hp0,-⟩,hB⟩ hkw hd
  have HE0:=ZH (show E=0 from HF.out.trans hp0)
  have h9:=one_setX he (.int .i64 0)
  have hB9:=hB.setCell (p:=⟨be,0,none⟩) HSZ.out.1 (.int .i64 0)
  have hd9:(W'.setCell ⟨be,0,none⟩ (.int .i64 0)).heap[D]?=some (.deferred (some [])):=(Below.heap_setCell _ _ _ _ (show D≠be by have:=HSZ.out.2.2.1; omega)).trans hd
  have y2:=cells1 (ZR _ W') he
  have f2:=ZF he 0
  have HQ:=ZH (ZN h9 (ZN hB9 (ZN hd9 hD)))
  clear h9 hB9 hd9 hc he hn hB hkw hd hp0 hD
  gi_wp2
  exact leaves_marks (B:=w5.heap.size) (X:=fun Z=>Z.heap[be]?=some (.cells #[.int .i64 0] 41 (0,0))∧Below w.heap.size w Z) (fun Z D h1 h2 h3=>⟨(World.putObj_heap_other (by have:=HSZ.out; omega)).trans h3.1,h3.2.grown (grownBy_putObj' Z D _) h3.2.size (fun q e=>by cases e; have:=HSZ.out; omega)⟩) (fun Z h=>⟨.int .i64 0,by have z:=cells1 (ZR _ Z) h.1; simp[results,Tryz.results25,go_sem,z],by rw[HE0.out],h.2⟩) (show Marks w5.heap.size (D+1) [{ target:=.collected D,args:=#[] }] _ from ⟨D,rfl,HQ.out.2.2.2,by omega,HQ.out.2.2.1,trivial⟩) ⟨HQ.out.1,HQ.out.2.1⟩
 case stop=>
  rintro D c pre W' hD hpre ⟨⟨rfl,hne⟩,he,hB⟩ hkw hd
  obtain ⟨t,ht⟩:=hpre
  have HE0:=ZH (show E=scanErr n 0 pre by rw[HF.out,←ht,scan_pre hne])
  have HQ:=ZH (ZN he (ZN hB (ZN hd hD)))
  obtain ⟨SE,hSE⟩:∃q,q=scanErr n 0 pre:=⟨_,rfl⟩
  rw[←hSE] at HE0 HQ
  clear he hB hkw hd hne ht hD hSE
  gi_wp2
  exact leaves_marks (B:=w5.heap.size) (X:=fun Z=>Z.heap[be]?=some (.cells #[.int .i64 SE] 41 (0,0))∧Below w.heap.size w Z) (fun Z D h1 h2 h3=>⟨(World.putObj_heap_other (by have:=HSZ.out; omega)).trans h3.1,h3.2.grown (grownBy_putObj' Z D _) h3.2.size (fun q e=>by cases e; have:=HSZ.out; omega)⟩) (fun Z h=>⟨.int .i64 SE,by have z:=cells1 (ZR _ Z) h.1; simp[results,Tryz.results25,go_sem,z],by rw[HE0.out],h.2⟩) (show Marks w5.heap.size (D+1) [{ target:=.collected D,args:=#[] }] _ from ⟨D,rfl,HQ.out.2.2.2,by omega,HQ.out.2.2.1,trivial⟩) ⟨HQ.out.1,HQ.out.2.1⟩
end Go.Proofs.YtdcaaehapdhckaaGreatDoor

