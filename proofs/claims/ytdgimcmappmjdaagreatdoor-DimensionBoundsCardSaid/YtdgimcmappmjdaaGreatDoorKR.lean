/- Two rows of rationals that grow side by side. -/
import Derived.Test.YtdgimcmappmjdaaGreatDoorKQ
import Derived.Deep.Onto
set_option linter.unusedSimpArgs false
set_option linter.unusedVariables false
set_option maxRecDepth 100000
namespace Go.Proofs.YtdgimcmappmjdaaGreatDoor
open Go.RowKit Go.Num Go.Flow
set_option maxHeartbeats 4000000

theorem RatApp.own {w:World} {B:Nat} {v:Value} {rs:List Rat} {K:Nat} (h:RatApp w B v rs K):∀q,v.ownBlock=some q→B≤q∧q<w.heap.size:=by
 obtain ⟨qs,h1,h2,h3⟩:=h
 exact fun q e=>World.ownsRow.lt h2.1 q e
theorem RatApp.shape {w:World} {B:Nat} {v:Value} {rs:List Rat} {K:Nat} (h:RatApp w B v rs K):∃ao c,v=.slice ao rs.length c∧rs.length≤c∧c≤maxLen:=by
 obtain ⟨qs,h1,h2,h3⟩:=h
 exact row_shape h2.1
theorem RowP.kept {p:Value→Prop} {w w':World} {B:Nat} {e:TypeId} {size:Nat} {v:Value} {n:Nat} {xs:List Value} {row:Option Nat} (h:RowP p w B e size v n xs) (hg:w.grownBy w' row) (hne:∀q,v.ownBlock=some q→row≠some q):RowP p w' B e size v n xs:=by
 refine ⟨row_keep h.1 ⟨hg.size,fun b hb hl=>hg.block b hl fun e=>hne b hb e.symm⟩,fun g e=>?_⟩
 obtain ⟨cur,h1,h2⟩:=h.2 g e
 exact ⟨cur,(hg.block g (ZL h1) fun e2=>hne g e e2.symm).trans h1,h2⟩
theorem RatApp.kept {w w':World} {B B2:Nat} {v v2:Value} {rs rs2:List Rat} {K K2:Nat} (h:RatApp w B v rs K) (h2:RatApp w B2 v2 rs2 K2) (hg:w.grownBy w' v2.ownBlock) (hne:∀q,v.ownBlock=some q→v2.ownBlock≠some q):RatApp w' B v rs K:=by
 obtain ⟨qs,h1,h3,h4⟩:=h
 obtain ⟨qs2,k1,k3,k4⟩:=h2
 exact ⟨qs,h1,h3.kept hg hne,fun j hj=>(h4 j hj).grown k3 hg⟩
open List renaming setIfInBounds_toArray → zLa, set_cons_zero → zLb, set_cons_succ → zLc
open FlowR renaming putSel → zFp
open Act renaming put → zAp
open Nat renaming zero_add → zNz
open Flow.Steps renaming cons → zSc, nil → zSn
open FlowR.Step renaming of → zSo
set_option maxHeartbeats 8000000
def partQ (q:Int×Int×Int×Int) (i:Nat):Int:=if i%4=0 then q.1 else if i%4=1 then q.2.1 else if i%4=2 then q.2.2.1 else q.2.2.2
def ptAt (D:List Dm) (q:Int×Int×Int×Int) (i:Nat):Rat:=(((D.getD i Dm.none).nominal+(D.getD i Dm.none).lower:Int):Rat)+((partQ q i:Int):Rat)/((255:Int):Rat)*(((D.getD i Dm.none).upper-(D.getD i Dm.none).lower:Int):Rat)
def ptTo (D:List Dm) (q:Int×Int×Int×Int) (k:Nat):List Rat:=(List.range k).map (ptAt D q)
theorem ptTo_succ (D:List Dm) (q:Int×Int×Int×Int) (k:Nat):ptTo D q (k+1)=ptTo D q k++[ptAt D q k]:=by
 unfold ptTo
 rw[List.range_succ,List.map_append]
 rfl
theorem ptTo_len (D:List Dm) (q:Int×Int×Int×Int) (k:Nat):(ptTo D q k).length=k:=by unfold ptTo; simp
theorem RatApp.mono {w:World} {B B':Nat} {v:Value} {rs:List Rat} {K:Nat} (h:RatApp w B v rs K) (hb:B'≤B):RatApp w B' v rs K:=by
 obtain ⟨qs,h1,h2,h3⟩:=h
 exact ⟨qs,h1,⟨World.ownsRow.mono h2.1 hb,h2.2⟩,h3⟩
theorem pPoint_any {w:World} {ad:Option Addr} {cd:Nat} {D:List Dm} (hd:DimsIn w ad cd D) (hl:D.length≤1000)
  (hD:∀j,j<D.length→(-1000000000≤(D.getD j Dm.none).nominal∧(D.getD j Dm.none).nominal≤1000000000)∧(-1000000000≤(D.getD j Dm.none).lower∧(D.getD j Dm.none).lower≤1000000000)∧(-1000000000≤(D.getD j Dm.none).upper∧(D.getD j Dm.none).upper≤1000000000))
  {n0 n1 n2 n3:Int} (h0:0≤n0∧n0≤255) (h1:0≤n1∧n1≤255) (h2:0≤n2∧n2≤255) (h3:0≤n3∧n3≤255) :
  Calls Tryz.prog 48 #[.slice ad D.length cd,.agg #[.int .u8 n0,.int .u8 n1,.int .u8 n2,.int .u8 n3]] w fun e w'=>∃v,e=.returned v∧RatApp w' w.heap.size v (ptTo D (n0,n1,n2,n3) D.length) 9∧Below w.heap.size w w':=by
 obtain ⟨n,hn⟩:∃n,n=D.length:=⟨_,rfl⟩
 have hcap:n≤cd∧cd≤9223372036854775807:=by rw[hn]; exact ⟨hd.1,hd.2.1⟩
 obtain ⟨wa,bq,bn,bG,aY,ka⟩:=new_box w #[.int .u8 n0,.int .u8 n1,.int .u8 n2,.int .u8 n3] 89
 have HD:=ZH (hd.below aY)
 have HDB:=ZH hD
 have HN:=ZH (ZN hn hl)
 have HQ:=ZH (ZN h0 (ZN h1 (ZN h2 h3)))
 have a4:=ZH aY
 have bx:=ZH ka
 have HW:=ZH (ZN bn bG)
 rw[←hn]
 clear hd hD hl hn h0 h1 h2 h3 bn bG aY ka
 go_enter Tryz.func48,Tryz.ntmps48
 go_upto_region 1 with fail
 rw[←HW.out.1,←HW.out.2]
 clear HW
 go_wp2_with fail
 go_loopg [5,6] n (fun gk vv i wr=>∃k:Nat,k+gk=n∧i=.int .i64 k∧Hid (RatApp wr wa.heap.size vv (ptTo D (n0,n1,n2,n3) k) 9)∧Hid (Below wa.heap.size wa wr))
 case atStart=>exact ⟨0,by omega,rfl,ZH (ratApp_nil _ _ _),ZH (ZR _ _)⟩
 case round=>
  obtain ⟨k,hk,rfl,ah,am⟩:=hrel
  by_cases hlt:k<n
  ·have e1:((k:Int)<(n:Int))=True:=eq_true (by omega)
   obtain ⟨db,ag,rfl,-,bA⟩:=HD.out.2.2 (by have:=HN.out; omega)
   obtain ⟨d,bb⟩:∃x,x=D.getD k Dm.none:=⟨_,rfl⟩
   have hx:=bA k (by have:=HN.out; omega)
   have bH:=HDB.out k (by have:=HN.out; omega)
   rw[←bb] at hx bH
   have aM:=ZH (ZN (ZJ am.out hx.2.1) (ZN (ZJ am.out hx.2.2.1) (ZJ am.out hx.2.2.2)))
   obtain ⟨lo,bf⟩:∃x,x=d.nominal+d.lower:=⟨_,rfl⟩
   obtain ⟨wd,a8⟩:∃x,x=d.upper-d.lower:=⟨_,rfl⟩
   obtain ⟨X,hX⟩:∃x,x=partQ (n0,n1,n2,n3) k:=⟨_,rfl⟩
   have bD:0≤X∧X≤255:=by
    have h9:=HQ.out
    rw[hX]
    unfold partQ
    simp only
    split
    ·omega
    ·split
     ·omega
     ·split<;>omega
   have bu:IntKind.i64.wrap (d.nominal+d.lower)=lo:=by rw[bf]; exact IntWalk.i64_in _ (by omega)
   have bw:IntKind.i64.wrap (d.upper-d.lower)=wd:=by rw[a8]; exact IntWalk.i64_in _ (by omega)
   have HP:=ZH (ZN bu (ZN bw (ZN (show (-3000000000≤lo∧lo≤3000000000)∧(-3000000000≤wd∧wd≤3000000000) by omega) bD)))
   have HPT:=ZH (show ptAt D (n0,n1,n2,n3) k=(lo:Rat)+(X:Rat)/((255:Int):Rat)*(wd:Rat) by rw[ptAt,←bb,←bf,←a8,←hX])
   obtain ⟨I,hI⟩:∃x,x=k%4:=⟨_,rfl⟩
   have br:(#[.int .u8 n0,.int .u8 n1,.int .u8 n2,.int .u8 n3]:Array Value)[I]?=some (.int .u8 X):=by
    rw[hX]; unfold partQ
    rw[←hI]
    have hI4:I=0∨I=1∨I=2∨I=3:=by omega
    clear hI
    rcases hI4 with rfl | rfl | rfl | rfl<;>simp
   have a3:=ZH (ZN br (ZN hI (show I<4 by omega)))
   obtain ⟨rs,aP⟩:∃x,x=ptTo D (n0,n1,n2,n3) k:=⟨_,rfl⟩
   have HPS:=ZH (show ptTo D (n0,n1,n2,n3) (k+1)=rs++[ptAt D (n0,n1,n2,n3) k] by rw[ptTo_succ,aP])
   have bi:rs.length=k:=by rw[aP,ptTo_len]
   rw[←aP] at ah
   obtain ⟨aa,ac,rfl,-,-⟩:=ah.out.shape
   rw[bi] at ah⊢
   have aX:=ZH ah.out
   have ay:=ZH am.out
   have aD:=ZH (ZN hlt (ZN hk bi))
   have aj:=ZH (ZR wr.heap.size wr)
   have hk0:(0:Int)≤(k:Int):=by omega
   have hk1:(k:Int)<(n:Int):=by omega
   clear bA bb hx bH bf a8 hX bD bu bw hI br aP bi ah am hlt hk
   go_upto_region 5 with fail
   clear e1
   refine FlowR.wp_region_sel (fun a b=>Below a.heap.size a b) (fun a=>ZR _ a) (fun _ _ _ h k=>h.trans (k.mono h.size)) [0,1,2,3,4,5,6,7,8,9,10,11,12] [false,false,false,false,false,false,false,false,false,false,false,false,false,false] [true,true,true,true,true,true,true,true,true,true,true,true,true,false] (fun i9 v w'=>match i9 with
    | 0=>v=.slice (some ⟨db,ag,none⟩) n cd
    | 1=>v=.int .i64 (k:Int)
    | 2=>v=.pointer (some ⟨db,ag+k*4,none⟩)
    | 3=>v=.pointer (some ⟨db,ag+k*4+3,none⟩)
    | 4=>v=.int .i64 d.upper
    | 5=>v=.slice (some ⟨db,ag,none⟩) n cd
    | 6=>v=.int .i64 (k:Int)
    | 7=>v=.pointer (some ⟨db,ag+k*4,none⟩)
    | 8=>v=.pointer (some ⟨db,ag+k*4+2,none⟩)
    | 9=>v=.int .i64 d.lower
    | 10=>v=.int .i64 wd
    | 11=>RtIn w' v (wd:Rat) 2
    | _=>∃bp:Nat,v=.pointer (some ⟨bp,0,none⟩)∧wr.heap.size≤bp∧w'.heap[bp]?=some (.cells #[.bool false,.slice none 0 0,.bool false,.slice none 0 0] 43 (0,0))) rfl rfl (by kernel_rfl) (by kernel_rfl) (by kernel_rfl) (by kernel_rfl) ?st ?steps ?_
   case st=>
    intro i9 v u1 u2 h hb
    match i9 with
    | 0 | 1 | 2 | 3 | 4 | 5 | 6 | 7 | 8 | 9 | 10=>exact h
    | 11=>exact RtIn.below h hb
    | 12 | _+13=>exact by obtain ⟨bp,e,hl9,aA⟩:=(show ∃bp:Nat,v=.pointer (some ⟨bp,0,none⟩)∧wr.heap.size≤bp∧u1.heap[bp]?=some (.cells #[.bool false,.slice none 0 0,.bool false,.slice none 0 0] 43 (0,0)) from h); exact ⟨bp,e,hl9,(hb.block bp (ZL aA)).trans aA⟩
   case steps=>
    refine zSc (zSo rfl ?s0) (zSc (zSo rfl ?s1) (zSc (zSo rfl ?s2) (zSc (zSo rfl ?s3) (zSc (zSo rfl ?s4) (zSc (zSo rfl ?s5) (zSc (zSo rfl ?s6) (zSc (zSo rfl ?s7) (zSc (zSo rfl ?s8) (zSc (zSo rfl ?s9) (zSc (zSo rfl ?s10) (zSc (zSo rfl ?s11) (zSc (zSo rfl ?s12) zSn))))))))))))
    case s0 | s1 | s5 | s6=>
     intro xs w' hb hT K9 ae
     clear hT
     simp only[zFp,zAp,zLa,zLb,zLc,Nat.reduceAdd,zNz] at ae⊢
     have hw:=Flow.hwD aj.out hb
     go_simp
     exact ae _ _ (ZR _ _) rfl
    case s2=>
     intro xs w' hb hT K9 ae
     have h0:(xs 0)=.slice (some ⟨db,ag,none⟩) n cd:=hT 0 (by kernel_rfl)
     have h1:(xs 1)=.int .i64 (k:Int):=hT 1 (by kernel_rfl)
     clear hT
     simp only[zFp,zAp,zLa,zLb,zLc,Nat.reduceAdd,zNz] at ae⊢
     have hw:=Flow.hwD aj.out hb
     (try simp only[h0] at ae)
     (try simp only[h1] at ae)
     go_simp
     exact ae _ _ (ZR _ _) rfl
    case s3=>
     intro xs w' hb hT K9 ae
     have h2:(xs 2)=.pointer (some ⟨db,ag+k*4,none⟩):=hT 2 (by kernel_rfl)
     clear hT
     simp only[zFp,zAp,zLa,zLb,zLc,Nat.reduceAdd,zNz] at ae⊢
     have hw:=Flow.hwD aj.out hb
     (try simp only[h2] at ae)
     go_simp
     exact ae _ _ (ZR _ _) rfl
    case s4=>
     intro xs w' hb hT K9 ae
     have h3:(xs 3)=.pointer (some ⟨db,ag+k*4+3,none⟩):=hT 3 (by kernel_rfl)
     clear hT
     simp only[zFp,zAp,zLa,zLb,zLc,Nat.reduceAdd,zNz] at ae⊢
     have hw:=Flow.hwD aj.out hb
     (try simp only[h3] at ae)
     have y0:=ZJ hw aM.out.2.2
     go_simp
     exact ae _ _ (ZR _ _) rfl
    case s7=>
     intro xs w' hb hT K9 ae
     have h5:(xs 5)=.slice (some ⟨db,ag,none⟩) n cd:=hT 5 (by kernel_rfl)
     have h6:(xs 6)=.int .i64 (k:Int):=hT 6 (by kernel_rfl)
     clear hT
     simp only[zFp,zAp,zLa,zLb,zLc,Nat.reduceAdd,zNz] at ae⊢
     have hw:=Flow.hwD aj.out hb
     (try simp only[h5] at ae)
     (try simp only[h6] at ae)
     go_simp
     exact ae _ _ (ZR _ _) rfl
    case s8=>
     intro xs w' hb hT K9 ae
     have h7:(xs 7)=.pointer (some ⟨db,ag+k*4,none⟩):=hT 7 (by kernel_rfl)
     clear hT
     simp only[zFp,zAp,zLa,zLb,zLc,Nat.reduceAdd,zNz] at ae⊢
     have hw:=Flow.hwD aj.out hb
     (try simp only[h7] at ae)
     go_simp
     exact ae _ _ (ZR _ _) rfl
    case s9=>
     intro xs w' hb hT K9 ae
     have h8:(xs 8)=.pointer (some ⟨db,ag+k*4+2,none⟩):=hT 8 (by kernel_rfl)
     clear hT
     simp only[zFp,zAp,zLa,zLb,zLc,Nat.reduceAdd,zNz] at ae⊢
     have hw:=Flow.hwD aj.out hb
     (try simp only[h8] at ae)
     have y0:=ZJ hw aM.out.2.1
     go_simp
     exact ae _ _ (ZR _ _) rfl
    case s10=>
     intro xs w' hb hT K9 ae
     have h4:(xs 4)=.int .i64 d.upper:=hT 4 (by kernel_rfl)
     have h9:(xs 9)=.int .i64 d.lower:=hT 9 (by kernel_rfl)
     clear hT
     simp only[zFp,zAp,zLa,zLb,zLc,Nat.reduceAdd,zNz] at ae⊢
     have hw:=Flow.hwD aj.out hb
     (try simp only[h4] at ae)
     (try simp only[h9] at ae)
     go_simp
     exact ae _ _ (ZR _ _) (by first | (rw[HP.out.2.1]; done) | (congr 1; exact HP.out.2.1))
    case s11=>
     intro xs w' hb hT K9 ae
     have be:(xs 10)=.int .i64 wd:=hT 10 (by kernel_rfl)
     clear hT
     simp only[zFp,zAp,zLa,zLb,zLc,Nat.reduceAdd,zNz] at ae⊢
     have hw:=Flow.hwD aj.out hb
     (try simp only[be] at ae)
     go_simp
     go_at_call 23
     refine (ratFrom_any (n:=wd) (by have:=HP.out; omega) (by have:=HP.out; omega)).mono ?_
     rintro e w3 ⟨v3,rfl,al,an⟩
     exact ae _ _ an al
    case s12=>
     intro xs w' hb hT K9 ae
     clear hT
     simp only[zFp,zAp,zLa,zLb,zLc,Nat.reduceAdd,zNz] at ae⊢
     have hw:=Flow.hwD aj.out hb
     go_simp
     exact ae _ _ ((ZR _ _).alloc (Nat.le_refl _) _) ⟨_,rfl,hw.size,ZW _ _⟩
   intro xs w' hb hT
   have hw:=Flow.hwD aj.out hb
   have ao:RtIn w' (xs 11) (wd:Rat) 2:=hT 11 (by rfl)
   have aZ:∃bp:Nat,(xs 12)=.pointer (some ⟨bp,0,none⟩)∧wr.heap.size≤bp∧w'.heap[bp]?=some (.cells #[.bool false,.slice none 0 0,.bool false,.slice none 0 0] 43 (0,0)):=hT 12 (by rfl)
   clear hT
   simp only[zFp,zAp,zLa,zLb,zLc,Nat.reduceAdd,zNz,FlowR.restL,FlowR.orM,Bool.false_or]
   obtain ⟨bp,bo,au,ai⟩:=aZ
   obtain ⟨aC,aK,av,aH,aq,aI,ar,aL,a0⟩:=rt_shape ao
   rw[a0] at ao
   simp only[a0,bo]
   clear a0 bo
   obtain ⟨z0,z1,z2,z3⟩:=cells4 (ZR _ w') ai
   have f0:=ZF ai 0
   have f1:=ZF ai 1
   have f2:=ZF ai 2
   have f3:=ZF ai 3
   have ap:=ZH (ZN hw (ZN ao (ZN au ai)))
   clear ao au ai hw hb
   go_upto_region 6 with fail
   clear z0 z1 z2 z3 f0 f1 f2 f3
   obtain ⟨w7,az⟩:∃x,x=(((w'.setCell ⟨bp,0,none⟩ (.bool aC)).setCell ⟨bp,1,none⟩ (.slice aK av aH)).setCell ⟨bp,2,none⟩ (.bool aq)).setCell ⟨bp,3,none⟩ (.slice aI ar aL):=⟨_,rfl⟩
   rw[←az]
   have bm:But bp w' w7:=by rw[az]; exact But.set4 (b:=bp) w' _ _ _ _
   have aG:=ap.out.2.2.1
   have aV:=ZH (show Below wr.heap.size wr w7 by
    rw[az]
    exact (((ap.out.1.setCell (p:=⟨bp,0,none⟩) aG _).setCell (p:=⟨bp,1,none⟩) aG _).setCell (p:=⟨bp,2,none⟩) aG _).setCell (p:=⟨bp,3,none⟩) aG _)
   have aN:=ZH (show w7.heap[bp]?=some (.cells #[.bool aC,.slice aK av aH,.bool aq,.slice aI ar aL] 43 (0,0))∧RtIn w7 (.agg #[.bool aC,.slice aK av aH,.bool aq,.slice aI ar aL]) (wd:Rat) 2 from ⟨by rw[az]; exact four_set ap.out.2.2.2 _ _ _ _,ap.out.2.1.but (nodig4 ap.out.2.2.2) bm⟩)
   clear az bm aG ap
   have hxc:w7.cell? ⟨bq,I,none⟩=some (.int .u8 X):=by
    have h1:=ay.out.trans (aV.out.mono ay.out.size)
    exact (ZI ((h1.block bq (ZL bx.out)).trans bx.out) I).trans a3.out.1
   have htm:(k:Int).tmod 4=(I:Int):=by rw[Int.tmod_eq_emod_of_nonneg (by omega),a3.out.2.1]; exact (Int.natCast_emod _ _).symm
   have hI0:(0:Int)≤(I:Int):=by omega
   have hI1:(I:Int)<4:=by have:=a3.out.2.2; omega
   have hux:IntKind.i64.wrap X=X:=IntWalk.i64_in _ (by have:=HP.out; omega)
   go_wp2_with fail
   refine (rFrom_any (w:=w7) (n:=X) (by have:=HP.out; omega) (by have:=HP.out; omega)).mono ?_
   rintro e wA ⟨va,rfl,bt,bv⟩
   have bl:=ZH (rt_int bt)
   have aT:=ZH bv
   clear bt bv hxc htm hI0 hI1 hux
   go_wp2_with fail
   refine (rFrom_any (w:=wA) (n:=255) (by omega) (by omega)).mono ?_
   rintro e wB ⟨vb,rfl,bI,bd⟩
   have bB:=ZH (rt_int bI)
   have aB:=ZH (bl.out.below bd)
   have aQ:=ZH (aT.out.trans (bd.mono aT.out.size))
   clear bI bd bl aT
   go_wp2_with fail
   refine (ratDiv_any aB.out bB.out (by omega) (by omega) (by omega)).mono ?_
   rintro e wC ⟨vq,rfl,a7,a2⟩
   obtain ⟨bg,a9,a5,bc,aW,a1,aS,aR,rfl⟩:=rt_shape a7
   rw[show divErr ((255:Int):Rat)=0 from by decide]
   obtain ⟨w8,b8,bk,bF,aU,k8⟩:=new_box wC #[.bool bg,.slice a9 a5 bc,.bool aW,.slice a1 aS aR] 43
   have ak:=(aQ.out.trans (a2.mono aQ.out.size)).trans (aU.mono (Nat.le_trans aQ.out.size a2.size))
   have aO:=ZH (ZN k8 (ZN (a7.below aU) (ZN ((ak.block bp (ZL aN.out.1)).trans aN.out.1) (aN.out.2.below ak))))
   have aJ:=ZH (aV.out.trans (ak.mono aV.out.size))
   have bh:=ZH (ZN bk bF)
   clear a7 a2 bk bF aU k8 ak aB bB aQ aN
   go_upto_region 7 with fail
   rw[←bh.out.1,←bh.out.2]
   clear bh
   have bC:=ZH (ZN (ZJ aJ.out aM.out.1) (ZJ aJ.out aM.out.2.1))
   have af:=ZH (ZR w8.heap.size w8)
   have aE:=ZH (aX.out.below aJ.out)
   refine FlowR.wp_region_sel (fun a b=>Below a.heap.size a b) (fun a=>ZR _ a) (fun _ _ _ h k=>h.trans (k.mono h.size)) [0,1,2,3,4,5,6,7,8,9,10,11,12,13,14,15,16,17] [false,false,false,false,false,false,false,false,false,false,false,false,false,false,false,false,false,false,false,false] [true,true,true,true,true,true,true,true,true,true,true,true,true,true,true,true,true,true,false,false] (fun i9 v w'=>match i9 with
    | 0=>v=.slice aa k ac
    | 1=>v=.slice (some ⟨db,ag,none⟩) n cd
    | 2=>v=.int .i64 (k:Int)
    | 3=>v=.pointer (some ⟨db,ag+k*4,none⟩)
    | 4=>v=.pointer (some ⟨db,ag+k*4+1,none⟩)
    | 5=>v=.int .i64 d.nominal
    | 6=>v=.slice (some ⟨db,ag,none⟩) n cd
    | 7=>v=.int .i64 (k:Int)
    | 8=>v=.pointer (some ⟨db,ag+k*4,none⟩)
    | 9=>v=.pointer (some ⟨db,ag+k*4+2,none⟩)
    | 10=>v=.int .i64 d.lower
    | 11=>v=.int .i64 lo
    | 12=>RtIn w' v (lo:Rat) 2
    | 13=>v=.agg #[.bool bg,.slice a9 a5 bc,.bool aW,.slice a1 aS aR]
    | 14=>v=.agg #[.bool aC,.slice aK av aH,.bool aq,.slice aI ar aL]
    | 15=>RtIn w' v ((X:Rat)/((255:Int):Rat)*(wd:Rat)) 6
    | 16=>RtIn w' v (ptAt D (n0,n1,n2,n3) k) 9
    | _=>∃(bz:Nat) (c1:Bool) (c2:Option Addr) (c3 c4:Nat) (c5:Bool) (c6:Option Addr) (c7 c8:Nat),v=.slice (some ⟨bz,0,none⟩) 1 1∧w'.heap[bz]?=some (.cells #[.bool c1,.slice c2 c3 c4,.bool c5,.slice c6 c7 c8] 43 (0,0))∧RtIn w' (.agg #[.bool c1,.slice c2 c3 c4,.bool c5,.slice c6 c7 c8]) (ptAt D (n0,n1,n2,n3) k) 9) rfl rfl (by kernel_rfl) (by kernel_rfl) (by kernel_rfl) (by kernel_rfl) ?st ?steps ?_
   case st=>
    intro i9 v u1 u2 h hb
    match i9 with
    | 0 | 1 | 2 | 3 | 4 | 5 | 6 | 7 | 8 | 9 | 10 | 11 | 13 | 14=>exact h
    | 12 | 15 | 16=>exact RtIn.below h hb
    | 17 | _+18=>exact by obtain ⟨bz,c1,c2,c3,c4,c5,c6,c7,c8,e,aA,hr9⟩:=(show ∃(bz:Nat) (c1:Bool) (c2:Option Addr) (c3 c4:Nat) (c5:Bool) (c6:Option Addr) (c7 c8:Nat),v=.slice (some ⟨bz,0,none⟩) 1 1∧u1.heap[bz]?=some (.cells #[.bool c1,.slice c2 c3 c4,.bool c5,.slice c6 c7 c8] 43 (0,0))∧RtIn u1 (.agg #[.bool c1,.slice c2 c3 c4,.bool c5,.slice c6 c7 c8]) (ptAt D (n0,n1,n2,n3) k) 9 from h); exact ⟨bz,c1,c2,c3,c4,c5,c6,c7,c8,e,(hb.block bz (ZL aA)).trans aA,hr9.below hb⟩
   case steps=>
    refine zSc (zSo rfl ?s0) (zSc (zSo rfl ?s1) (zSc (zSo rfl ?s2) (zSc (zSo rfl ?s3) (zSc (zSo rfl ?s4) (zSc (zSo rfl ?s5) (zSc (zSo rfl ?s6) (zSc (zSo rfl ?s7) (zSc (zSo rfl ?s8) (zSc (zSo rfl ?s9) (zSc (zSo rfl ?s10) (zSc (zSo rfl ?s11) (zSc (zSo rfl ?s12) (zSc (zSo rfl ?s13) (zSc (zSo rfl ?s14) (zSc (zSo rfl ?s15) (zSc (zSo rfl ?s16) (zSc (zSo rfl ?s17) zSn)))))))))))))))))
    case s0 | s1 | s2 | s6 | s7=>
     intro xs w' hb hT K9 ae
     clear hT
     simp only[zFp,zAp,zLa,zLb,zLc,Nat.reduceAdd,zNz] at ae⊢
     have hw:=Flow.hwD af.out hb
     go_simp
     exact ae _ _ (ZR _ _) rfl
    case s3=>
     intro xs w' hb hT K9 ae
     have h1:(xs 1)=.slice (some ⟨db,ag,none⟩) n cd:=hT 1 (by kernel_rfl)
     have h2:(xs 2)=.int .i64 (k:Int):=hT 2 (by kernel_rfl)
     clear hT
     simp only[zFp,zAp,zLa,zLb,zLc,Nat.reduceAdd,zNz] at ae⊢
     have hw:=Flow.hwD af.out hb
     (try simp only[h1] at ae)
     (try simp only[h2] at ae)
     go_simp
     exact ae _ _ (ZR _ _) rfl
    case s4=>
     intro xs w' hb hT K9 ae
     have h3:(xs 3)=.pointer (some ⟨db,ag+k*4,none⟩):=hT 3 (by kernel_rfl)
     clear hT
     simp only[zFp,zAp,zLa,zLb,zLc,Nat.reduceAdd,zNz] at ae⊢
     have hw:=Flow.hwD af.out hb
     (try simp only[h3] at ae)
     go_simp
     exact ae _ _ (ZR _ _) rfl
    case s5=>
     intro xs w' hb hT K9 ae
     have h4:(xs 4)=.pointer (some ⟨db,ag+k*4+1,none⟩):=hT 4 (by kernel_rfl)
     clear hT
     simp only[zFp,zAp,zLa,zLb,zLc,Nat.reduceAdd,zNz] at ae⊢
     have hw:=Flow.hwD af.out hb
     (try simp only[h4] at ae)
     have y0:=ZJ hw bC.out.1
     go_simp
     exact ae _ _ (ZR _ _) rfl
    case s8=>
     intro xs w' hb hT K9 ae
     have h6:(xs 6)=.slice (some ⟨db,ag,none⟩) n cd:=hT 6 (by kernel_rfl)
     have h7:(xs 7)=.int .i64 (k:Int):=hT 7 (by kernel_rfl)
     clear hT
     simp only[zFp,zAp,zLa,zLb,zLc,Nat.reduceAdd,zNz] at ae⊢
     have hw:=Flow.hwD af.out hb
     (try simp only[h6] at ae)
     (try simp only[h7] at ae)
     go_simp
     exact ae _ _ (ZR _ _) rfl
    case s9=>
     intro xs w' hb hT K9 ae
     have h8:(xs 8)=.pointer (some ⟨db,ag+k*4,none⟩):=hT 8 (by kernel_rfl)
     clear hT
     simp only[zFp,zAp,zLa,zLb,zLc,Nat.reduceAdd,zNz] at ae⊢
     have hw:=Flow.hwD af.out hb
     (try simp only[h8] at ae)
     go_simp
     exact ae _ _ (ZR _ _) rfl
    case s10=>
     intro xs w' hb hT K9 ae
     have h9:(xs 9)=.pointer (some ⟨db,ag+k*4+2,none⟩):=hT 9 (by kernel_rfl)
     clear hT
     simp only[zFp,zAp,zLa,zLb,zLc,Nat.reduceAdd,zNz] at ae⊢
     have hw:=Flow.hwD af.out hb
     (try simp only[h9] at ae)
     have y0:=ZJ hw bC.out.2
     go_simp
     exact ae _ _ (ZR _ _) rfl
    case s11=>
     intro xs w' hb hT K9 ae
     have h5:(xs 5)=.int .i64 d.nominal:=hT 5 (by kernel_rfl)
     have be:(xs 10)=.int .i64 d.lower:=hT 10 (by kernel_rfl)
     clear hT
     simp only[zFp,zAp,zLa,zLb,zLc,Nat.reduceAdd,zNz] at ae⊢
     have hw:=Flow.hwD af.out hb
     (try simp only[h5] at ae)
     (try simp only[be] at ae)
     go_simp
     exact ae _ _ (ZR _ _) (by first | (rw[HP.out.1]; done) | (congr 1; exact HP.out.1))
    case s12=>
     intro xs w' hb hT K9 ae
     have ao:(xs 11)=.int .i64 lo:=hT 11 (by kernel_rfl)
     clear hT
     simp only[zFp,zAp,zLa,zLb,zLc,Nat.reduceAdd,zNz] at ae⊢
     have hw:=Flow.hwD af.out hb
     (try simp only[ao] at ae)
     go_simp
     go_at_call 23
     refine (ratFrom_any (n:=lo) (by have:=HP.out; omega) (by have:=HP.out; omega)).mono ?_
     rintro e w3 ⟨v3,rfl,al,an⟩
     exact ae _ _ an al
    case s13 | s14=>
     intro xs w' hb hT K9 ae
     clear hT
     simp only[zFp,zAp,zLa,zLb,zLc,Nat.reduceAdd,zNz] at ae⊢
     have hw:=Flow.hwD af.out hb
     obtain ⟨y0,y1,y2,y3⟩:=cells4 hw aO.out.1
     obtain ⟨z0,z1,z2,z3⟩:=cells4 hw aO.out.2.2.1
     go_simp
     exact ae _ _ (ZR _ _) rfl
    case s15=>
     intro xs w' hb hT K9 ae
     have h13:(xs 13)=.agg #[.bool bg,.slice a9 a5 bc,.bool aW,.slice a1 aS aR]:=hT 13 (by kernel_rfl)
     have h14:(xs 14)=.agg #[.bool aC,.slice aK av aH,.bool aq,.slice aI ar aL]:=hT 14 (by kernel_rfl)
     clear hT
     simp only[zFp,zAp,zLa,zLb,zLc,Nat.reduceAdd,zNz] at ae⊢
     have hw:=Flow.hwD af.out hb
     (try simp only[h13] at ae)
     (try simp only[h14] at ae)
     go_simp
     go_at_call 74
     refine (ratMul_any (aO.out.2.1.below hw) (aO.out.2.2.2.below hw) (by omega) (by omega) (by omega)).mono ?_
     rintro e w3 ⟨v3,rfl,al,an⟩
     exact ae _ _ an al
    case s16=>
     intro xs w' hb hT K9 ae
     have aZ:RtIn w' (xs 12) (lo:Rat) 2:=hT 12 (by kernel_rfl)
     have h15:RtIn w' (xs 15) ((X:Rat)/((255:Int):Rat)*(wd:Rat)) 6:=hT 15 (by kernel_rfl)
     clear hT
     simp only[zFp,zAp,zLa,zLb,zLc,Nat.reduceAdd,zNz] at ae⊢
     have hw:=Flow.hwD af.out hb
     go_simp
     go_at_call 79
     refine (ratAdd_any aZ h15 (by omega) (by omega) (by omega)).mono ?_
     rintro e w3 ⟨v3,rfl,al,an⟩
     exact ae _ _ an (by rw[HPT.out]; exact al)
    case s17=>
     intro xs w' hb hT K9 ae
     have bj:RtIn w' (xs 16) (ptAt D (n0,n1,n2,n3) k) 9:=hT 16 (by kernel_rfl)
     clear hT
     simp only[zFp,zAp,zLa,zLb,zLc,Nat.reduceAdd,zNz] at ae⊢
     have hw:=Flow.hwD af.out hb
     obtain ⟨c1,c2,c3,c4,c5,c6,c7,c8,bE⟩:=rt_shape bj
     rw[bE] at bj
     simp only[bE] at ae
     go_simp
     exact ae _ _ ((ZR _ _).alloc (Nat.le_refl _) _) ⟨_,c1,c2,c3,c4,c5,c6,c7,c8,rfl,ZW _ _,bj.below ((ZR _ _).alloc (Nat.le_refl _) _)⟩
   intro xs w' hb hT
   have hw:=Flow.hwD af.out hb
   have h0:(xs 0)=.slice aa k ac:=hT 0 (by rfl)
   have h17:∃(bz:Nat) (c1:Bool) (c2:Option Addr) (c3 c4:Nat) (c5:Bool) (c6:Option Addr) (c7 c8:Nat),(xs 17)=.slice (some ⟨bz,0,none⟩) 1 1∧w'.heap[bz]?=some (.cells #[.bool c1,.slice c2 c3 c4,.bool c5,.slice c6 c7 c8] 43 (0,0))∧RtIn w' (.agg #[.bool c1,.slice c2 c3 c4,.bool c5,.slice c6 c7 c8]) (ptAt D (n0,n1,n2,n3) k) 9:=hT 17 (by rfl)
   clear hT
   simp only[zFp,zAp,zLa,zLb,zLc,Nat.reduceAdd,zNz,FlowR.restL,FlowR.orM,Bool.false_or]
   obtain ⟨bz,c1,c2,c3,c4,c5,c6,c7,c8,bs,aw,ax⟩:=h17
   simp only[h0,bs]
   clear h0 bs hb
   obtain ⟨v9,wN,a6,aF,bJ⟩:=append_rat (aE.out.below hw) (by have h1:=aD.out; have h2:=HN.out; omega) aw ax (Nat.le_trans ay.out.size (Nat.le_trans aJ.out.size hw.size)) 34
   have HN9:=ZH (show RatApp wN wa.heap.size v9 (ptTo D (n0,n1,n2,n3) (k+1)) 9 by rw[HPS.out]; exact aF)
   have ba:=ay.out.trans (aJ.out.mono ay.out.size)
   have HBN:=ZH (show Below wa.heap.size wa wN from (ba.trans (hw.mono ba.size)).trans bJ)
   clear aw ax aF bJ ba hw
   go_wp2_with (at_builtin; refine wpList_append_run _ rfl _ _ 34 rfl _ _ rfl rfl a6 ?_)
   go_roundg (n-(k+1))
   case measure=>have h1:=aD.out.1; have h2:=aD.out.2.1; omega
   case rel=>exact ⟨k+1,by have:=aD.out.1; omega,by first | (congr 1; done) | (congr 1; exact IntWalk.wrap64_in ((k:Int)+1) (by have h1:=aD.out.1; have h2:=HN.out; omega)),HN9,HBN⟩
  ·have e1:((k:Int)<(n:Int))=False:=eq_false (by omega)
   obtain rfl:k=n:=by omega
   have HF:=ZH (ZN ah.out (a4.out.trans (am.out.mono a4.out.size)))
   have HSZ:=ZH a4.out.size
   clear ah am hlt hk
   go_wp2_with fail
   go_ret
   exact ⟨_,rfl,HF.out.1.mono HSZ.out,HF.out.2⟩
theorem plast_step (x:Ex) (ht:∀j,j<x.t.length→-1000000000≤(x.t.getD j (0,[])).1∧(x.t.getD j (0,[])).1≤1000000000) (hta:x.t.length≤1000000) (haa:x.a.length≤1000000)
  (ih:∀j,j<x.a.length→∀(w:World) (v:Value),ExIn w (x.a.getD j Ex.none) v→Calls Tryz.prog 51 #[v] w fun e w'=>e=.returned (.int .i64 (lastE (x.a.getD j Ex.none)))∧Below w.heap.size w w')
  {w:World} {v:Value} (hx:ExIn w x v):Calls Tryz.prog 51 #[v] w fun e w'=>e=.returned (.int .i64 (lastE x))∧Below w.heap.size w w':=by
 obtain ⟨tv,aa,ac,rfl,htz,hax⟩:=hx.out
 obtain ⟨ta,tc,rfl,t1,t2,t3⟩:=htz
 obtain ⟨_,_,e9,a1,a2,a3⟩:=hax
 simp only[Value.slice.injEq] at e9
 obtain ⟨rfl,-,rfl⟩:=e9
 obtain ⟨s0,aG⟩:∃s:ByteArray,s=⟨x.c.toArray⟩:=⟨_,rfl⟩
 obtain ⟨s1,aF⟩:∃s:ByteArray,s=⟨x.f.toArray⟩:=⟨_,rfl⟩
 obtain ⟨o,ho⟩:∃o,o=x.op:=⟨_,rfl⟩
 obtain ⟨tn,ar⟩:∃n,n=x.t.length:=⟨_,rfl⟩
 obtain ⟨an,au⟩:∃n,n=x.a.length:=⟨_,rfl⟩
 rw[←aG,←aF,←ho,←ar,←au]
 obtain ⟨wa,bx,az,ay,aE,ka⟩:=new_box w #[.int .i64 o,.string s0,.slice ta tn tc,.string s1,.slice aa an ac] 63
 have HT:=ZH (ZN t3 ht)
 have HA:=ZH (ZN a3 ih)
 have HN:=ZH (show tn=x.t.length∧an=x.a.length∧tn≤1000000∧an≤1000000 by omega)
 have ag:=ZH aE
 have av:=ZH ka
 have HW:=ZH (ZN az ay)
 have hcap:tn≤tc∧tc≤9223372036854775807:=by rw[ar]; exact ⟨t1,t2⟩
 have ax:an≤ac∧ac≤9223372036854775807:=by rw[au]; exact ⟨a1,a2⟩
 clear hx t1 t2 t3 a1 a2 a3 aG aF ho ar au az ay aE ka ht hta haa ih
 go_enter Tryz.func51,Tryz.ntmps51
 go_upto_region 1 with fail
 rw[←HW.out.1,←HW.out.2]
 clear HW
 go_wp2_with fail
 go_loopg [3,4] tn (fun gk vn i wr=>∃k:Nat,k+gk=tn∧i=.int .i64 k∧vn=.int .i64 (lastT (x.t.take k))∧Hid (Below wa.heap.size wa wr))
 case atStart=>exact ⟨0,by omega,rfl,rfl,ZH (ZR _ _)⟩
 case round=>
  obtain ⟨k,hk,rfl,rfl,ad⟩:=hrel
  obtain ⟨z0,z1,z2,z3,z4⟩:=cells5 ad.out av.out
  by_cases hlt:k<tn
  ·have e1:((k:Int)<(tn:Int))=True:=eq_true (by omega)
   obtain ⟨tb,tp,rfl,-,aw⟩:=HT.out.1 (by have:=HN.out; omega)
   have x0:=ZJ (ag.out.trans (ad.out.mono ag.out.size)) (aw k (by have:=HN.out; omega)).1
   obtain ⟨y,hy⟩:∃y,y=(x.t.getD k (0,[])).1:=⟨_,rfl⟩
   rw[←hy] at x0
   have aD:=HT.out.2 k (by have:=HN.out; omega)
   rw[←hy] at aD
   have hw:wrap64 (y+1)=y+1:=IntWalk.wrap64_in _ (by omega)
   have HS:=ZH (show lastT (x.t.take (k+1))=max (lastT (x.t.take k)) (y+1) by rw[lastT_snoc (by have:=HN.out; omega),hy])
   have hk0:(0:Int)≤(k:Int):=by omega
   have hk1:(k:Int)<(tn:Int):=by omega
   obtain ⟨M,hM⟩:∃M,M=lastT (x.t.take k):=⟨_,rfl⟩
   rw[←hM] at HS⊢
   have af:=ZH (ZN hlt hk)
   have ai:=ZH ad.out
   clear aw hy aD hM hlt hk ad
   go_wp2_with fail
   go_roundg (tn-(k+1))
   case measure=>have:=af.out; omega
   case rel=>exact ⟨k+1,by have:=af.out; omega,by first | (congr 1; done) | (congr 1; exact IntWalk.wrap64_in ((k:Int)+1) (by have h1:=af.out; have h2:=HN.out; omega)),by rw[HS.out],ai⟩
  ·have e1:((k:Int)<(tn:Int))=False:=eq_false (by omega)
   have ek:x.t.take k=x.t:=List.take_of_length_le (by have:=HN.out; omega)
   rw[ek]
   obtain ⟨M,hM⟩:∃M,M=lastT x.t:=⟨_,rfl⟩
   rw[←hM]
   have HM:=ZH hM
   have HB1:=ZH ad.out
   clear hM ek hlt hk ad
   go_wp2_with fail
   clear z0 z1 z2 z3 z4 e1
   go_loopg [3,5] an (fun gk vn i wr=>∃j:Nat,j+gk=an∧i=.int .i64 j∧vn=.int .i64 (lastA M (x.a.take j))∧Hid (Below wa.heap.size wa wr))
   case atStart=>exact ⟨0,by omega,rfl,by rw[List.take_zero,lastA],HB1⟩
   case round=>
    obtain ⟨j,hj,rfl,rfl,ad⟩:=hrel
    obtain ⟨z0,z1,z2,z3,z4⟩:=cells5 ad.out av.out
    by_cases hlt:j<an
    ·have e1:((j:Int)<(an:Int))=True:=eq_true (by omega)
     obtain ⟨g,og,rfl,-,aB⟩:=HA.out.1 (by have:=HN.out; omega)
     have ah:j<x.a.length:=by have:=HN.out; omega
     obtain ⟨utv,ua,uc,c0,c1,c2,c3,c4,ak,aj⟩:=aB.at (j:=j) ah
     have ae:=ag.out.trans (ad.out.mono ag.out.size)
     have c0:=ZJ ae c0
     have c1:=ZJ ae c1
     have c2:=ZJ ae c2
     have c3:=ZJ ae c3
     have c4:=ZJ ae c4
     obtain ⟨y,hy⟩:∃y,y=x.a.getD j Ex.none:=⟨_,rfl⟩
     have aq:=HA.out.2 j ah
     rw[←hy] at c0 c1 c3 c4 ak aj aq
     have aA:ExIn wr y _:=ExIn.of (ak.below ae) (aj.below ae)
     have HC:=ZH (aq wr _ aA)
     have HS:=ZH (show lastA M (x.a.take (j+1))=max (lastA M (x.a.take j)) (lastE y) by rw[lastA_snoc ah,hy])
     obtain ⟨x1,ao⟩:∃s:ByteArray,s=⟨y.c.toArray⟩:=⟨_,rfl⟩
     obtain ⟨x2,al⟩:∃s:ByteArray,s=⟨y.f.toArray⟩:=⟨_,rfl⟩
     obtain ⟨x3,am⟩:∃s,s=y.op:=⟨_,rfl⟩
     obtain ⟨x4,ap⟩:∃s,s=y.a.length:=⟨_,rfl⟩
     rw[←ao,←al,←am,←ap] at HC
     rw[←am] at c0
     rw[←ao] at c1
     rw[←al] at c3
     rw[←ap] at c4
     obtain ⟨tk,uk,rfl,-⟩:=ak
     obtain ⟨E,hE⟩:∃E,E=lastE y:=⟨_,rfl⟩
     rw[←hE] at HC HS
     obtain ⟨Q,hQ⟩:∃Q,Q=lastA M (x.a.take j):=⟨_,rfl⟩
     rw[←hQ] at HS⊢
     have hj0:(0:Int)≤(j:Int):=by omega
     have hj1:(j:Int)<(an:Int):=by omega
     have af:=ZH (ZN hlt hj)
     have ai:=ZH ad.out
     clear aB ae aq aA aj ao al am ap hE hQ hlt hj ad ah hy
     go_wp2_with fail
     refine HC.out.mono ?_
     rintro e w3 ⟨rfl,aC⟩
     have HB3:=ZH (ai.out.trans (aC.mono ai.out.size))
     clear aC
     go_wp2_with fail
     go_roundg (an-(j+1))
     case measure=>have:=af.out; omega
     case rel=>exact ⟨j+1,by have:=af.out; omega,by first | (congr 1; done) | (congr 1; exact IntWalk.wrap64_in ((j:Int)+1) (by have h1:=af.out; have h2:=HN.out; omega)),by rw[HS.out],HB3⟩
    ·have e1:((j:Int)<(an:Int))=False:=eq_false (by omega)
     have ej:x.a.take j=x.a:=List.take_of_length_le (by have:=HN.out; omega)
     rw[ej,HM.out,←lastE_eq]
     have HF:=ZH (ag.out.trans (ad.out.mono ag.out.size))
     clear ej hlt hj ad
     go_wp2_with fail
     go_ret
     exact ⟨rfl,HF.out⟩
open Go.Gx (GEx Over dep)
theorem raw_t {n:Nat} {x:GEx} (h:Over n x):(raw x).t.length≤n∧∀j,j<(raw x).t.length→0≤((raw x).t.getD j (0,[])).1∧((raw x).t.getD j (0,[])).1≤(n:Int):=by
 cases x with
 | form f=>
  rw[Over] at h
  rw[raw]
  have hl:(zTerms (formTexts f)).length=(formTexts f).length:=by unfold zTerms; rw[List.length_map]
  refine ⟨?_,fun j hj=>?_⟩
  ·show (zTerms (formTexts f)).length≤n
   rw[hl]
   have:=texts_len f
   omega
  ·have aa:j<(formTexts f).length:=by rw[←hl]; exact hj
   show 0≤((zTerms (formTexts f)).getD j (0,[])).1∧((zTerms (formTexts f)).getD j (0,[])).1≤(n:Int)
   rw[zTerms_at aa]
   have hm:(formTexts f).getD j (0,[])∈formTexts f:=by
    rw[List.getD_eq_getElem?_getD,List.getElem?_eq_getElem aa]
    exact List.getElem_mem aa
   have:=(texts_of hm).1
   omega
 | scale k a=>rw[raw]; exact ⟨Nat.zero_le _,fun j hj=>absurd hj (Nat.not_lt_zero _)⟩
 | add l=>rw[raw]; exact ⟨Nat.zero_le _,fun j hj=>absurd hj (Nat.not_lt_zero _)⟩
 | min l=>rw[raw]; exact ⟨Nat.zero_le _,fun j hj=>absurd hj (Nat.not_lt_zero _)⟩
 | max l=>rw[raw]; exact ⟨Nat.zero_le _,fun j hj=>absurd hj (Nat.not_lt_zero _)⟩
 | abs a=>rw[raw]; exact ⟨Nat.zero_le _,fun j hj=>absurd hj (Nat.not_lt_zero _)⟩
theorem plast_any {n:Nat} (hn:n≤900):∀(m:Nat) (x:GEx),dep x≤m→Over n x→bsz x≤1000000→∀(w:World) (v:Value),ExIn w (raw x) v→Calls Tryz.prog 51 #[v] w fun e w'=>e=.returned (.int .i64 (lastE (raw x)))∧Below w.heap.size w w'
 | 0,x,hm,_,_=>by cases x<;>rw[dep] at hm<;>omega
 | m+1,x,hm,ho,hb=>fun w v hx=>by
  have hal:∀l:List GEx,l.length≤bszs l:=fun l=>by
   induction l with
   | nil=>simp
   | cons a l ih=>rw[bszs,List.length_cons]; omega
  have hlen:(argG x).length≤1000000:=by
   have h1:=hal (argG x)
   by_cases h0:opG x=0
   ·cases x<;>simp[opG,argG] at h0⊢
   ·have h2:=asz_le h0
    unfold asz at h2
    omega
  refine plast_step (raw x) (fun j hj=>by have:=(raw_t ho).2 j hj; omega) (by have:=(raw_t ho).1; omega) (by rw[raw_args,raws_len]; exact hlen) (fun j hj w2 v2 hx2=>?_) hx
  rw[raw_args,raws_len] at hj
  rw[raw_args,raws_at hj] at hx2⊢
  refine plast_any hn m _ (by have:=arg_dep hj; omega) (arg_over ho hj) ?_ w2 v2 hx2
  have h1:=bszs_take hj
  have h2:=bszs_le (l:=argG x) (k:=j+1)
  have h3:=asz_le (x:=x) (by cases x<;>simp[opG,argG] at hj⊢)
  unfold asz at h3
  omega
end Go.Proofs.YtdgimcmappmjdaaGreatDoor
set_option maxRecDepth 100000
namespace Go.Proofs.YtdgimcmappmjdaaGreatDoor
open Go.RowKit Go.Num Go.Flow Go.Dtm
set_option maxHeartbeats 8000000
set_option linter.unusedVariables false

theorem chain_getD (l:List Trip) {n j:Nat} (hj:j<n):(chainDims l n).getD j Dm.none=chainDim l j:=by
 unfold chainDims
 simp[List.getD_eq_getElem?_getD,hj]
theorem chain_bound (l:List Trip) (hl:∀j,j<l.length→tripOk (l.getD j (0,0,0))) (i:Nat):(0≤(chainDim l i).nominal∧(chainDim l i).nominal≤255)∧(-63≤(chainDim l i).lower∧(chainDim l i).lower≤0)∧(0≤(chainDim l i).upper∧(chainDim l i).upper≤63):=by
 unfold chainDim
 split
 ·rename_i h
  have h2:=hl i h
  obtain ⟨⟨a1,a2⟩,⟨b1,b2⟩,⟨c1,c2⟩⟩:=h2
  unfold tripAt
  simp only
  omega
 ·simp
theorem chain_ok {w:World} {v:Value} {l:List Trip} (h:ChainIn w v l):∀j,j<l.length→tripOk (l.getD j (0,0,0)):=by
 obtain ⟨ao,c,-,h1,h2,h3⟩:=h
 intro j hj
 obtain ⟨b,off,-,-,hc⟩:=h3 (by omega)
 exact (hc j hj).2.2.2
end Go.Proofs.YtdgimcmappmjdaaGreatDoor
