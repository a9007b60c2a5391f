/-
  WHAT THE LAW LEANS ON, part 7 of 14: a machine of values and its soundness; the functions of the law upon it; what they come to.
-/
import Derived.Test.YtjoblbpgpmknmaaGreatDoorXsouf
import Derived.Test.YtjoblbpgpmknmaaGreatDoorChecked
import Derived.Tactics
import Derived.Tactics2
import Derived.Defers
import Derived.Recover
set_option linter.unusedVariables false
set_option linter.unusedSimpArgs false
set_option maxRecDepth 100000
namespace Go.Proofs.YtjoblbpgpmknmaaGreatDoor
open Go.RowKit
open Go.Aa
theorem T.catch_idle(p:Addr)(w:World):
 CallsD Tryz.prog 149 #[.pointer (some p)] .returning w fun e u' w'=>e=.returned (.tuple #[])∧u'=.returning∧w'=w:=by
 refine callsD_of_wpS Tryz.func149 rfl fun c₀ cs hu=> ?_
 apply wpS_seq
 apply wpS_region
 simp[wpOpsS,go_sem,recoverD,hu,Tryz.ntmps149,Exit.thenS]
 refine wpS_of_wp ?_
 go_wp2
 cases c₀
 simp_all[bodyPostS,results,Tryz.results149]
theorem T.hta(v:Value)(w:World):(Instr.typeAssert (.iface 212 v) 20 212 true).run Tryz.prog w=.ok (.tuple #[v,.bool true]) w:=by kernel_rfl
set_option maxHeartbeats 4000000 in
theorem T.catch_stop(b:Nat)(x:Int)(n:Int)(older:List PanicEntry)(w:World)(hlt:b<w.heap.size)(hne:¬w.heap.size=b)(hne':¬b=w.heap.size)(hc:w.cell? ⟨b,0,none⟩=some (.int .i64 x))(hz:w.frozen? ⟨b,0,none⟩=false):
 CallsD Tryz.prog 149 #[.pointer (some ⟨b,0,none⟩)] (.panicking ({v:=.iface 212 (.agg #[.int .i64 n]),recovered:=false}::older)) w fun e u' w'=>
  e=.returned (.tuple #[])∧u'=.panicking ({v:=.iface 212 (.agg #[.int .i64 n]),recovered:=true}::older)∧w'=(w.setCell ⟨b,0,none⟩ (.int .i64 n)).alloc (.cells #[.int .i64 n] 212):=by
 have hta:=T.hta
 have hz0:∀w:World,(zeroValue 212).run Tryz.prog w=.ok (.agg #[.int .i64 0]) w:=fun _=>by kernel_rfl
 have hsz:Tryz.prog.cellsOf 212=1:=by kernel_rfl
 have hag:∀w:World,(isAgg 212).run Tryz.prog w=.ok true w:=fun _=>by kernel_rfl
 refine callsD_of_wpS Tryz.func149 rfl fun c₀ cs hu=> ?_
 apply wpS_seq
 apply wpS_region
 simp[wpOpsS,go_sem,recoverD,hu,Tryz.ntmps149,Exit.thenS]
 refine wpS_of_wp ?_
 go_wp2
 cases c₀
 simp_all[bodyPostS,results,Tryz.results149]
theorem T.try_ok{call:CallF}(hcs:CallSound Tryz.prog call){g:FuncId}{caps:List AV}{H H':Heap}{r:ARes}(hr:tryA (call (.fn g) caps H) 212=some (r,H')){G:Ghost}{w:World}{us:Array Value}(hH:HRep Tryz.prog G w H)(hargs:Args G w us caps):
 Calls Tryz.prog 77 #[.func (.func g) #[] us] w (PostOk Tryz.prog G w r H'):=by
 have hmf:∀(fn:Fn)(first cap:Array Value)(w:World),(Instr.makeFunc fn first cap).run Tryz.prog w=.ok (.func fn first cap) w:=fun _ _ _ _=>rfl
 obtain⟨st1,hH1⟩:=lay_step hH (.cells #[.int .i64 0] 53)
 have hlt:=tok_lt hH1
 have hfree:=free_new hH
 have hsz:(w.alloc (.cells #[.int .i64 0] 53)).heap.size=w.heap.size+1:=by simp
 have hb0:(w.alloc (.cells #[.int .i64 0] 53)).heap[w.heap.size]?=some (.cells #[.int .i64 0] 53 (0,0)):=World.alloc_heap_new w _
 have hcall:∃r1 H1,call (.fn g) caps H=some (r1,H1)∧((∃v,r1=.ret v∧r=.ret (.int .i64 0)∧H1=H')∨(∃n,r1=.pan (.iface 212 (.agg [.int .i64 n]))∧r=.ret (.int .i64 n)∧H1=H')):=by
  cases hcc:call (.fn g) caps H with
  |none=>rw[hcc]at hr;cases hr
  |some x=>
   obtain⟨r1,H1⟩:=x
   rw[hcc]at hr
   cases r1 with
   |ret v=>
    simp only[tryA,Option.some.injEq,Prod.mk.injEq]at hr
    exact⟨_,_,rfl,.inl ⟨v,rfl,hr.1.symm,hr.2⟩⟩
   |pan v=>
    unfold tryA at hr
    split at hr
    ·rename_i h;cases h
    ·rename_i h
     split at hr
     ·rename_i ht
      subst ht
      simp only[Option.some.injEq,Prod.mk.injEq]at hr
      simp only[Option.some.injEq,Prod.mk.injEq,ARes.pan.injEq]at h
      obtain⟨rfl,rfl⟩:=h
      exact⟨_,_,rfl,.inr ⟨_,rfl,hr.1.symm,hr.2⟩⟩
     ·cases hr
    ·cases hr
 obtain⟨r1,H1,hc,hend⟩:=hcall
 have hco:=hcs.fn g caps H r1 H1 hc G _ us hH1 (hargs.step st1)
 go_enter_defers Tryz.func77,Tryz.ntmps77
 go_wp2
 rcases hco with⟨_,hrun,hcalls,_⟩|⟨u,w',hrun,hpost⟩
 ·rw[hrun]
  simp only[Oper.upon]
  refine hcalls.mono ?_
  rintro e w2⟨G2,st2,hH2,hend2⟩
  obtain⟨hfree2,hb2⟩:=free_step hfree (by rw[hsz];omega) st2 hlt
  rw[hb0]at hb2
  have hc2:w2.cell? ⟨w.heap.size,0,none⟩=some (.int .i64 0):=by simp[World.cell?,hb2]
  have hz2:w2.frozen? ⟨w.heap.size,0,none⟩=false:=by simp[World.frozen?,hb2]
  have pk:∀n:Int,Step G w G2 (w2.setCell ⟨w.heap.size,0,none⟩ (.int .i64 n))∧HRep Tryz.prog G2 (w2.setCell ⟨w.heap.size,0,none⟩ (.int .i64 n)) H1:=fun n=>
   poke hfree2 hH.base (Nat.le_refl _) (st1.trans st2) hH2 (fun k hk=>Below.heap_setCell _ _ _ k hk) (by simp) hH.glob rfl rfl rfl
  rcases hend with⟨v,rfl,rfl,rfl⟩|⟨n,rfl,rfl,rfl⟩
  ·obtain⟨u,rfl,hu⟩:=hend2
   simp only
   apply ‹∀(a:Act)(w:World),wpList _ _ _ _ a w→_›
   go_wp2
   refine leaves_cons (f:=149) (args:= #[.pointer (some ⟨w.heap.size,0,none⟩)]) (by simp) (by simp[go_sem]) ?_
   refine(T.catch_idle _ _).mono ?_
   rintro e u' w''⟨rfl,rfl,rfl⟩
   have hc3:(w2.setCell ⟨w.heap.size,0,none⟩ (.int .i64 0)).cell? ⟨w.heap.size,0,none⟩=some (.int .i64 0):=by first|exact World.cell?_setCell_same _ hc2|exact World.cell?_setCell_same _ _ hc2|exact World.cell?_setCell_same _ _ _ hc2
   simp[Leaves,settle,results,Tryz.results77,go_sem,hc3]
   exact⟨G2,(pk 0).1,(pk 0).2,_,rfl,.int _ _⟩
  ·obtain⟨u,rfl,hu⟩:=hend2
   have hu':u=.iface 212 (.agg #[.int .i64 n]):=by
    cases hu with
    |iface _ v _ hv=>
     cases hv with
     |agg us _ hn hv=>
      have h0:us.size=1:=hn
      have h1:=hv 0 (by omega) (by simp)
      have e:us= #[us[0]]:=Array.ext (by simpa using h0) (fun i i1 i2=>by
       have:i=0:=by omega
       subst this;rfl)
      rw[List.getElem_cons_zero]at h1
      generalize us[0]=y at h1 e
      cases h1
      rw[e]
   subst hu'
   have hb3:w.heap.size<w2.heap.size:=(Array.getElem?_eq_some_iff.1 hb2).1
   simp only[Exit.then]
   refine leaves_cons (f:=149) (args:= #[.pointer (some ⟨w.heap.size,0,none⟩)]) (by simp) (by simp[go_sem]) ?_
   refine(T.catch_stop w.heap.size 0 n [] w2 hb3 (by omega) (by omega) hc2 hz2).mono ?_
   rintro e u' w''⟨rfl,rfl,rfl⟩
   have hc3:((w2.setCell ⟨w.heap.size,0,none⟩ (.int .i64 n)).alloc (.cells #[.int .i64 n] 212)).cell? ⟨w.heap.size,0,none⟩=some (.int .i64 n):=by
    have e1:=Below.heap_alloc (w2.setCell ⟨w.heap.size,0,none⟩ (.int .i64 n)) (.cells #[.int .i64 n] 212) w.heap.size (by simpa using hb3)
    have c:(w2.setCell ⟨w.heap.size,0,none⟩ (.int .i64 n)).cell? ⟨w.heap.size,0,none⟩=some (.int .i64 n):=by first|exact World.cell?_setCell_same _ hc2|exact World.cell?_setCell_same _ _ hc2|exact World.cell?_setCell_same _ _ _ hc2
    unfold World.cell? at c⊢
    rw[e1];exact c
   simp[Leaves,settle,results,Tryz.results77,go_sem,hc3]
   obtain⟨s3,h3⟩:=pk n
   obtain⟨s4,h4⟩:=lay_step h3 (.cells #[.int .i64 n] 212)
   exact⟨G2,s3.trans s4,h4,_,rfl,.int _ _⟩
 ·rw[hrun]
  simp only[Oper.upon]
  obtain⟨G2,st2,hH2,hend2⟩:=hpost
  obtain⟨hfree2,hb2⟩:=free_step hfree (by rw[hsz];omega) st2 hlt
  rw[hb0]at hb2
  have hc2:w'.cell? ⟨w.heap.size,0,none⟩=some (.int .i64 0):=by simp[World.cell?,hb2]
  have hz2:w'.frozen? ⟨w.heap.size,0,none⟩=false:=by simp[World.frozen?,hb2]
  have pk:∀n:Int,Step G w G2 (w'.setCell ⟨w.heap.size,0,none⟩ (.int .i64 n))∧HRep Tryz.prog G2 (w'.setCell ⟨w.heap.size,0,none⟩ (.int .i64 n)) H1:=fun n=>
   poke hfree2 hH.base (Nat.le_refl _) (st1.trans st2) hH2 (fun k hk=>Below.heap_setCell _ _ _ k hk) (by simp) hH.glob rfl rfl rfl
  rcases hend with⟨v,rfl,rfl,rfl⟩|⟨n,rfl,rfl,rfl⟩
  ·obtain⟨u',hu',hu⟩:=hend2
   apply ‹∀(a:Act)(w:World),wpList _ _ _ _ a w→_›
   go_wp2
   refine leaves_cons (f:=149) (args:= #[.pointer (some ⟨w.heap.size,0,none⟩)]) (by simp) (by simp[go_sem]) ?_
   refine(T.catch_idle _ _).mono ?_
   rintro e u' w''⟨rfl,rfl,rfl⟩
   have hc3:(w'.setCell ⟨w.heap.size,0,none⟩ (.int .i64 0)).cell? ⟨w.heap.size,0,none⟩=some (.int .i64 0):=by first|exact World.cell?_setCell_same _ hc2|exact World.cell?_setCell_same _ _ hc2|exact World.cell?_setCell_same _ _ _ hc2
   simp[Leaves,settle,results,Tryz.results77,go_sem,hc3]
   exact⟨G2,(pk 0).1,(pk 0).2,_,rfl,.int _ _⟩
  ·obtain⟨u',hu',hu⟩:=hend2
   cases hu'
theorem T.tryOk:TryOk Tryz.prog 77 212:=by
 intro call hcs g caps H r H' hr G w vs hH hargs
 obtain⟨h1,h2⟩:=hargs
 have hs:vs.size=1:=h1
 have e:vs= #[vs[0]]:=Array.ext (by simpa using hs) (fun i i1 i2=>by
  have:i=0:=by omega
  subst this;rfl)
 have hv:=h2 0 (by omega) (by simp)
 rw[List.getElem_cons_zero]at hv
 generalize vs[0]=y at hv e
 subst e
 cases hv with
 |func _ us _ hn hu=>exact .inl ⟨w,by kernel_rfl,T.try_ok hcs hr hH ⟨hn,hu⟩,rfl⟩
#print axioms T.tryOk
end Go.Proofs.YtjoblbpgpmknmaaGreatDoor
set_option linter.unusedVariables false
set_option linter.unusedSimpArgs false
set_option maxRecDepth 100000
namespace Go.Aa.T
open Go.Aa Go.Proofs
variable{H:Heap}
structure Taint where
 key:List UInt8
 val:List UInt8
 hard:Bool
structure Tol where
 key:List UInt8
 val:List UInt8
 any:Bool
def Taint.cells(t:Taint):List AV:=[.str t.key,.str t.val,.bool t.hard]
def Tol.cells(t:Tol):List AV:=[.str t.key,.str t.val,.bool t.any]
def encT(t:Taint):AV:=.agg t.cells
def encL(t:Tol):AV:=.agg t.cells
instance(t:Taint):Dat (encT t):=⟨rfl,rfl⟩
instance(t:Tol):Dat (encL t):=⟨rfl,rfl⟩
end Go.Aa.T
set_option linter.unusedVariables false
set_option linter.unusedSimpArgs false
set_option maxRecDepth 100000
namespace Go.Aa.T
open Go.Aa Go.Proofs
theorem _root_.Go.Aa.dT(p:Prop)[Decidable p](h:p:=by omega):decide p=true:=decide_eq_true h
theorem _root_.Go.Aa.dF(p:Prop)[Decidable p](h:¬p:=by omega):decide p=false:=decide_eq_false h
theorem _root_.Go.Aa.lM{X:Type}(k:SK)(f:X→AV)(l:List X):lenA false (.sl k (l.map f))=some (.int .i64 (l.length:Int)):=len_map _
theorem _root_.Go.Aa.iR{X:Type}{l post:List X}{x:X}{i:Nat}(es:Nat)(f:X→AV)(hd:l.drop i=x::post)(hc:cellsN es (f x)=true:=by rfl):idxA es (.sl .sh (l.map f)) (.int .i64 (i:Int))=some (.ref (f x).cells):=idx_row hd hc
theorem _root_.Go.Aa.iI(i:Nat)(h:i<9223372036854775807:=by omega):binA .add (.int .i64 (i:Int)) (.int .i64 1)=some (.int .i64 ((i+1:Nat):Int)):=inc_i h
theorem _root_.Go.Aa.lB(b:Bool)(n:Nat)(H:Heap)(k o:Nat)(v:AV)(cs:List AV)(h:H.boxes[k]?=some cs:=by simp+zetaDelta)(e:loadA b n ⟨[cs],[],[]⟩ (.ptr 0 o)=some v:=by rfl):loadA b n H (.ptr k o)=some v:=load_box h e
theorem _root_.Go.Aa.gG{cfg:Cfg}{A:AFunc}{R:ARes×Heap→Prop}{T:Env}{k:List AIt}{H:Heap}(n:Nat)(vs:List (Nat×AV))(hT:Has T vs)(s:ScrQ cfg A R)(e:uns s (fun s=>acts n k s (updL T vs) H)=claims s:=by kernel_rfl):Goes cfg A k T H R:=goG n vs hT s e
def few{α:Type}(f:α→List UInt8×List UInt8)(l:List α):Bool:=l.all fun x=>decide ((f x).1.length≤50)&&decide ((f x).2.length≤50)
def fewT(l:List Taint):Bool:=decide (l.length≤20)&&few (fun t=>(t.key,t.val)) l
def fewL(l:List Tol):Bool:=decide (l.length≤20)&&few (fun t=>(t.key,t.val)) l
theorem fewT_loop(l:List Taint)(hn:l.length≤20):∀(post:List Taint)(i:Nat)(hd:l.drop i=post)(T:Env)(hT:Has T [(0,.sl .sh (l.map encT)),(3,.int .i64 i)]),
 Goes cfg a166 k166_0 T Heap.nil (IsRet (.bool (few (fun t=>(t.key,t.val)) post))):=by
 intro post
 induction post with
 |nil=>
  intro i hd T hT
  have hge:=drop_ge hd
  exact gG 60 _ hT (.len (lM .sh encT l)<|.no (dF ((↑i:Int)<(↑l.length:Int)))<|.fin ((.ret (.bool true),{boxes:=[],toks:=[],loops:=[]:Heap})) rfl)
 |cons x post ih=>
  intro i hd T hT
  have hlt:=drop_lt hd
  have hnx:=drop_next hd
  exact let ζ1:Heap:={boxes:=[],toks:=[],loops:=[]:Heap};gG 60 _ hT (.len (lM .sh encT l)<|.yes (dT ((↑i:Int)<(↑l.length:Int)))<|.idx (iR 3 encT hd)<|.len (show lenA true (.str x.key)=some (.int .i64 (↑x.key.length))from len_str _)<|.split ((50:Int)<(↑x.key.length:Int)) (fun h1=>.yes (dT ((50:Int)<(↑x.key.length:Int)) h1)<|.tt<|.fin ((.ret (.bool false),ζ1)) (by simp only[IsRet];grind[few])) (fun h1=>.no (dF ((50:Int)<(↑x.key.length:Int)) h1)<|.idx (iR 3 encT hd)<|.len (show lenA true (.str x.val)=some (.int .i64 (↑x.val.length))from len_str _)<|.split ((50:Int)<(↑x.val.length:Int)) (fun h2=>.yes (dT ((50:Int)<(↑x.val.length:Int)) h2)<|.fin ((.ret (.bool false),ζ1)) (by simp only[IsRet];grind[few])) (fun h2=>.no (dF ((50:Int)<(↑x.val.length:Int)) h2)<|.bin (iI i)<|.cutQ k166_0 [(0,.sl .sh (l.map encT)),(3,.int .i64 (↑(i+1)))] (ζ1) (fun T hT=>(ih (i+1) hnx T hT).to (by grind[few])))))
theorem fewL_loop(l:List Tol)(hn:l.length≤20):∀(post:List Tol)(i:Nat)(hd:l.drop i=post)(T:Env)(hT:Has T [(0,.sl .sh (l.map encL)),(3,.int .i64 i)]),
 Goes cfg a65 k65_0 T Heap.nil (IsRet (.bool (few (fun t=>(t.key,t.val)) post))):=by
 intro post
 induction post with
 |nil=>
  intro i hd T hT
  have hge:=drop_ge hd
  exact gG 60 _ hT (.len (lM .sh encL l)<|.no (dF ((↑i:Int)<(↑l.length:Int)))<|.fin ((.ret (.bool true),{boxes:=[],toks:=[],loops:=[]:Heap})) rfl)
 |cons x post ih=>
  intro i hd T hT
  have hlt:=drop_lt hd
  have hnx:=drop_next hd
  exact let ζ1:Heap:={boxes:=[],toks:=[],loops:=[]:Heap};gG 60 _ hT (.len (lM .sh encL l)<|.yes (dT ((↑i:Int)<(↑l.length:Int)))<|.idx (iR 3 encL hd)<|.len (show lenA true (.str x.key)=some (.int .i64 (↑x.key.length))from len_str _)<|.split ((50:Int)<(↑x.key.length:Int)) (fun h1=>.yes (dT ((50:Int)<(↑x.key.length:Int)) h1)<|.tt<|.fin ((.ret (.bool false),ζ1)) (by simp only[IsRet];grind[few])) (fun h1=>.no (dF ((50:Int)<(↑x.key.length:Int)) h1)<|.idx (iR 3 encL hd)<|.len (show lenA true (.str x.val)=some (.int .i64 (↑x.val.length))from len_str _)<|.split ((50:Int)<(↑x.val.length:Int)) (fun h2=>.yes (dT ((50:Int)<(↑x.val.length:Int)) h2)<|.fin ((.ret (.bool false),ζ1)) (by simp only[IsRet];grind[few])) (fun h2=>.no (dF ((50:Int)<(↑x.val.length:Int)) h2)<|.bin (iI i)<|.cutQ k65_0 [(0,.sl .sh (l.map encL)),(3,.int .i64 (↑(i+1)))] (ζ1) (fun T hT=>(ih (i+1) hnx T hT).to (by grind[few])))))
theorem fewT_any(l:List Taint):Gives cfg 166 [.sl .sh (l.map encT)] (.bool (fewT l)):=by
 refine Gives.run (l166 _ _) ?_
 have h:=fun hn=>fewT_loop l hn l 0 rfl
 exact let ζ1:Heap:={boxes:=[],toks:=[],loops:=[]:Heap};gG 60 [] trivial (.len (lM .sh encT l)<|.split ((20:Int)<(↑l.length:Int)) (fun h1=>.yes (dT ((20:Int)<(↑l.length:Int)) h1)<|.fin ((.ret (.bool false),ζ1)) (by simp only[IsRet];grind[fewT])) (fun h1=>.no (dF ((20:Int)<(↑l.length:Int)) h1)<|.cutQ k166_0 [(0,.sl .sh (l.map encT)),(3,.int .i64 0)] (ζ1) (fun T hT=>(h (by omega) T hT).to (by grind[fewT]))))
theorem fewL_any(l:List Tol):Gives cfg 65 [.sl .sh (l.map encL)] (.bool (fewL l)):=by
 refine Gives.run (l65 _ _) ?_
 have h:=fun hn=>fewL_loop l hn l 0 rfl
 exact let ζ1:Heap:={boxes:=[],toks:=[],loops:=[]:Heap};gG 60 [] trivial (.len (lM .sh encL l)<|.split ((20:Int)<(↑l.length:Int)) (fun h1=>.yes (dT ((20:Int)<(↑l.length:Int)) h1)<|.fin ((.ret (.bool false),ζ1)) (by simp only[IsRet];grind[fewL])) (fun h1=>.no (dF ((20:Int)<(↑l.length:Int)) h1)<|.cutQ k65_0 [(0,.sl .sh (l.map encL)),(3,.int .i64 0)] (ζ1) (fun T hT=>(h (by omega) T hT).to (by grind[fewL]))))
theorem ofT_loop(l:List Taint)(hn:l.length≤20):∀(post:List Taint)(i:Nat)(acc:List AV)(hd:l.drop i=post)(ha:acc.length=i)(hl:lenOk 3 acc=true)(T:Env)(hT:Has T [(0,.sl .sh (l.map encT)),(3,rowS Heap.nil acc),(4,.int .i64 i)]),
 Goes cfg a198 k198_0 T (rowH Heap.nil acc) (IsRet (rowS Heap.nil (acc++post.map encT))):=by
 intro post
 induction post with
 |nil=>
  intro i acc hd ha hl T hT
  have hge:=drop_ge hd
  exact gG 60 _ hT (.len (lM .sh encT l)<|.no (dF ((↑i:Int)<(↑l.length:Int)))<|.fin ((.ret (setD (setD (setD (setD (setD (setD (updL T [(0,.sl .sh (l.map encT)),(3,rowS Heap.nil acc),(4,.int .i64 ↑i)]) (some 5) (ev (updL T [(0,.sl .sh (l.map encT)),(3,rowS Heap.nil acc),(4,.int .i64 ↑i)]) (.t 4))) (some 6) (ev (setD (updL T [(0,.sl .sh (l.map encT)),(3,rowS Heap.nil acc),(4,.int .i64 ↑i)]) (some 5) (ev (updL T [(0,.sl .sh (l.map encT)),(3,rowS Heap.nil acc),(4,.int .i64 ↑i)]) (.t 4))) (.t 0))) (some 7) (.int .i64 (↑l.length))) (some 8) (.bool (decide ((↑i:Int)<(↑l.length:Int))))) (some 30) (ev (setD (setD (setD (setD (updL T [(0,.sl .sh (l.map encT)),(3,rowS Heap.nil acc),(4,.int .i64 ↑i)]) (some 5) (ev (updL T [(0,.sl .sh (l.map encT)),(3,rowS Heap.nil acc),(4,.int .i64 ↑i)]) (.t 4))) (some 6) (ev (setD (updL T [(0,.sl .sh (l.map encT)),(3,rowS Heap.nil acc),(4,.int .i64 ↑i)]) (some 5) (ev (updL T [(0,.sl .sh (l.map encT)),(3,rowS Heap.nil acc),(4,.int .i64 ↑i)]) (.t 4))) (.t 0))) (some 7) (.int .i64 (↑l.length))) (some 8) (.bool (decide ((↑i:Int)<(↑l.length:Int))))) (.t 3))) (some 2) (ev (setD (setD (setD (setD (setD (updL T [(0,.sl .sh (l.map encT)),(3,rowS Heap.nil acc),(4,.int .i64 ↑i)]) (some 5) (ev (updL T [(0,.sl .sh (l.map encT)),(3,rowS Heap.nil acc),(4,.int .i64 ↑i)]) (.t 4))) (some 6) (ev (setD (updL T [(0,.sl .sh (l.map encT)),(3,rowS Heap.nil acc),(4,.int .i64 ↑i)]) (some 5) (ev (updL T [(0,.sl .sh (l.map encT)),(3,rowS Heap.nil acc),(4,.int .i64 ↑i)]) (.t 4))) (.t 0))) (some 7) (.int .i64 (↑l.length))) (some 8) (.bool (decide ((↑i:Int)<(↑l.length:Int))))) (some 30) (ev (setD (setD (setD (setD (updL T [(0,.sl .sh (l.map encT)),(3,rowS Heap.nil acc),(4,.int .i64 ↑i)]) (some 5) (ev (updL T [(0,.sl .sh (l.map encT)),(3,rowS Heap.nil acc),(4,.int .i64 ↑i)]) (.t 4))) (some 6) (ev (setD (updL T [(0,.sl .sh (l.map encT)),(3,rowS Heap.nil acc),(4,.int .i64 ↑i)]) (some 5) (ev (updL T [(0,.sl .sh (l.map encT)),(3,rowS Heap.nil acc),(4,.int .i64 ↑i)]) (.t 4))) (.t 0))) (some 7) (.int .i64 (↑l.length))) (some 8) (.bool (decide ((↑i:Int)<(↑l.length:Int))))) (.t 3))) (.t 30)) 2),rowH Heap.nil acc)) (by simp only[IsRet,List.map_nil,List.append_nil];rfl))
 |cons x post ih=>
  intro i acc hd ha hl T hT
  have hlt:=drop_lt hd
  have hnx:=drop_next hd
  exact gG 60 _ hT (.len (lM .sh encT l)<|.yes (dT ((↑i:Int)<(↑l.length:Int)) (by simp;omega))<|.idx (iR 3 encT hd)<|.load (rfl:loadA false 1 (rowH Heap.nil acc) (.ref [.str x.key])=some (.str x.key))<|.idx (iR 3 encT hd)<|.load (rfl:loadA false 1 (rowH Heap.nil acc) (.ref [.str x.val])=some (.str x.val))<|.idx (iR 3 encT hd)<|.load (rfl:loadA false 1 (rowH Heap.nil acc) (.ref [.bool x.hard])=some (.bool x.hard))<|.append (show appendA 3 40 (rowH Heap.nil acc) (rowS Heap.nil acc) (.sl .full [.agg [.str x.key,.str x.val,.bool x.hard]])=some ((rowS Heap.nil (acc++[AV.agg [.str x.key,.str x.val,.bool x.hard]]),rowH Heap.nil (acc++[AV.agg [.str x.key,.str x.val,.bool x.hard]])))from row_append (by omega) hl (by rfl) (by rfl))<|.bin (iI i)<|.cutQ k198_0 [(0,.sl .sh (l.map encT)),(3,rowS Heap.nil (acc++[AV.agg [.str x.key,.str x.val,.bool x.hard]])),(4,.int .i64 (↑(i+1)))] (rowH Heap.nil (acc++[AV.agg [.str x.key,.str x.val,.bool x.hard]])) (fun T hT=>(ih (i+1) (acc++[AV.agg [.str x.key,.str x.val,.bool x.hard]]) hnx (by simp;omega) (by exact lenOk_snoc (by assumption) rfl) T hT).to (by simp[encT,Taint.cells])))
theorem ofL_loop(l:List Tol)(hn:l.length≤20):∀(post:List Tol)(i:Nat)(acc:List AV)(hd:l.drop i=post)(ha:acc.length=i)(hl:lenOk 3 acc=true)(T:Env)(hT:Has T [(0,.sl .sh (l.map encL)),(3,rowS Heap.nil acc),(4,.int .i64 i)]),
 Goes cfg a73 k73_0 T (rowH Heap.nil acc) (IsRet (rowS Heap.nil (acc++post.map encL))):=by
 intro post
 induction post with
 |nil=>
  intro i acc hd ha hl T hT
  have hge:=drop_ge hd
  exact gG 60 _ hT (.len (lM .sh encL l)<|.no (dF ((↑i:Int)<(↑l.length:Int)))<|.fin ((.ret (setD (setD (setD (setD (setD (setD (updL T [(0,.sl .sh (l.map encL)),(3,rowS Heap.nil acc),(4,.int .i64 ↑i)]) (some 5) (ev (updL T [(0,.sl .sh (l.map encL)),(3,rowS Heap.nil acc),(4,.int .i64 ↑i)]) (.t 4))) (some 6) (ev (setD (updL T [(0,.sl .sh (l.map encL)),(3,rowS Heap.nil acc),(4,.int .i64 ↑i)]) (some 5) (ev (updL T [(0,.sl .sh (l.map encL)),(3,rowS Heap.nil acc),(4,.int .i64 ↑i)]) (.t 4))) (.t 0))) (some 7) (.int .i64 (↑l.length))) (some 8) (.bool (decide ((↑i:Int)<(↑l.length:Int))))) (some 30) (ev (setD (setD (setD (setD (updL T [(0,.sl .sh (l.map encL)),(3,rowS Heap.nil acc),(4,.int .i64 ↑i)]) (some 5) (ev (updL T [(0,.sl .sh (l.map encL)),(3,rowS Heap.nil acc),(4,.int .i64 ↑i)]) (.t 4))) (some 6) (ev (setD (updL T [(0,.sl .sh (l.map encL)),(3,rowS Heap.nil acc),(4,.int .i64 ↑i)]) (some 5) (ev (updL T [(0,.sl .sh (l.map encL)),(3,rowS Heap.nil acc),(4,.int .i64 ↑i)]) (.t 4))) (.t 0))) (some 7) (.int .i64 (↑l.length))) (some 8) (.bool (decide ((↑i:Int)<(↑l.length:Int))))) (.t 3))) (some 2) (ev (setD (setD (setD (setD (setD (updL T [(0,.sl .sh (l.map encL)),(3,rowS Heap.nil acc),(4,.int .i64 ↑i)]) (some 5) (ev (updL T [(0,.sl .sh (l.map encL)),(3,rowS Heap.nil acc),(4,.int .i64 ↑i)]) (.t 4))) (some 6) (ev (setD (updL T [(0,.sl .sh (l.map encL)),(3,rowS Heap.nil acc),(4,.int .i64 ↑i)]) (some 5) (ev (updL T [(0,.sl .sh (l.map encL)),(3,rowS Heap.nil acc),(4,.int .i64 ↑i)]) (.t 4))) (.t 0))) (some 7) (.int .i64 (↑l.length))) (some 8) (.bool (decide ((↑i:Int)<(↑l.length:Int))))) (some 30) (ev (setD (setD (setD (setD (updL T [(0,.sl .sh (l.map encL)),(3,rowS Heap.nil acc),(4,.int .i64 ↑i)]) (some 5) (ev (updL T [(0,.sl .sh (l.map encL)),(3,rowS Heap.nil acc),(4,.int .i64 ↑i)]) (.t 4))) (some 6) (ev (setD (updL T [(0,.sl .sh (l.map encL)),(3,rowS Heap.nil acc),(4,.int .i64 ↑i)]) (some 5) (ev (updL T [(0,.sl .sh (l.map encL)),(3,rowS Heap.nil acc),(4,.int .i64 ↑i)]) (.t 4))) (.t 0))) (some 7) (.int .i64 (↑l.length))) (some 8) (.bool (decide ((↑i:Int)<(↑l.length:Int))))) (.t 3))) (.t 30)) 2),rowH Heap.nil acc)) (by simp only[IsRet,List.map_nil,List.append_nil];rfl))
 |cons x post ih=>
  intro i acc hd ha hl T hT
  have hlt:=drop_lt hd
  have hnx:=drop_next hd
  exact gG 60 _ hT (.len (lM .sh encL l)<|.yes (dT ((↑i:Int)<(↑l.length:Int)) (by simp;omega))<|.idx (iR 3 encL hd)<|.load (rfl:loadA false 1 (rowH Heap.nil acc) (.ref [.str x.key])=some (.str x.key))<|.idx (iR 3 encL hd)<|.load (rfl:loadA false 1 (rowH Heap.nil acc) (.ref [.str x.val])=some (.str x.val))<|.idx (iR 3 encL hd)<|.load (rfl:loadA false 1 (rowH Heap.nil acc) (.ref [.bool x.any])=some (.bool x.any))<|.append (show appendA 3 40 (rowH Heap.nil acc) (rowS Heap.nil acc) (.sl .full [.agg [.str x.key,.str x.val,.bool x.any]])=some ((rowS Heap.nil (acc++[AV.agg [.str x.key,.str x.val,.bool x.any]]),rowH Heap.nil (acc++[AV.agg [.str x.key,.str x.val,.bool x.any]])))from row_append (by omega) hl (by rfl) (by rfl))<|.bin (iI i)<|.cutQ k73_0 [(0,.sl .sh (l.map encL)),(3,rowS Heap.nil (acc++[AV.agg [.str x.key,.str x.val,.bool x.any]])),(4,.int .i64 (↑(i+1)))] (rowH Heap.nil (acc++[AV.agg [.str x.key,.str x.val,.bool x.any]])) (fun T hT=>(ih (i+1) (acc++[AV.agg [.str x.key,.str x.val,.bool x.any]]) hnx (by simp;omega) (by exact lenOk_snoc (by assumption) rfl) T hT).to (by simp[encL,Tol.cells])))
theorem ofT_any(l:List Taint)(hn:l.length≤20):Gives cfg 198 [.sl .sh (l.map encT)] (rowS Heap.nil (l.map encT)):=by
 refine Gives.run (l198 _ _) ?_
 have h:=ofT_loop l hn l 0 [] rfl rfl rfl
 exact gG 60 [] trivial (.cutQ k198_0 [(0,.sl .sh (l.map encT)),(3,.sl .full []),(4,.int .i64 0)] ({boxes:=[],toks:=[],loops:=[]:Heap}) (fun T hT=>(h T hT)))
theorem ofL_any(l:List Tol)(hn:l.length≤20):Gives cfg 73 [.sl .sh (l.map encL)] (rowS Heap.nil (l.map encL)):=by
 refine Gives.run (l73 _ _) ?_
 have h:=ofL_loop l hn l 0 [] rfl rfl rfl
 exact gG 60 [] trivial (.cutQ k73_0 [(0,.sl .sh (l.map encL)),(3,.sl .full []),(4,.int .i64 0)] ({boxes:=[],toks:=[],loops:=[]:Heap}) (fun T hT=>(h T hT)))
def nameCh(c:UInt8):Bool:=(decide (97≤c.toNat)&&decide (c.toNat≤122))||(decide (48≤c.toNat)&&decide (c.toNat≤57))
def isName(s:List UInt8):Bool:=decide (1≤s.length)&&decide (s.length≤12)&&s.all nameCh
theorem name_loop(s:List UInt8)(hn:s.length≤12):∀(post:List UInt8)(i:Nat)(hd:s.drop i=post)(T:Env)(hT:Has T [(0,.str s),(3,.int .i64 i)]),
 Goes cfg a66 k66_0 T Heap.nil (IsRet (.bool (post.all nameCh))):=by
 intro post
 induction post with
 |nil=>
  intro i hd T hT
  have hge:=drop_ge hd
  exact gG 60 _ hT (.len (show lenA true (.str s)=some (.int .i64 (↑s.length))from len_str _)<|.no (dF ((↑i:Int)<(↑s.length:Int)))<|.fin ((.ret (.bool true),{boxes:=[],toks:=[],loops:=[]:Heap})) rfl)
 |cons x post ih=>
  intro i hd T hT
  have hlt:=drop_lt hd
  have hnx:=drop_next hd
  exact let ζ1:Heap:={boxes:=[],toks:=[],loops:=[]:Heap};gG 60 _ hT (.len (show lenA true (.str s)=some (.int .i64 (↑s.length))from len_str _)<|.yes (dT ((↑i:Int)<(↑s.length:Int)))<|.idxs (show idxsA (.str s) (.int .i64 ↑i)=some (.int .u8 (↑x.toNat))from idx_str hd)<|.split ((↑x.toNat:Int)<(97:Int)) (fun h1=>.yes (dT ((↑x.toNat:Int)<(97:Int)) h1)<|.tt<|.idxs (show idxsA (.str s) (.int .i64 ↑i)=some (.int .u8 (↑x.toNat))from idx_str hd)<|.split ((↑x.toNat:Int)<(48:Int)) (fun h2=>.yes (dT ((↑x.toNat:Int)<(48:Int)) h2)<|.tt<|.fin ((.ret (.bool false),ζ1)) (by simp only[IsRet];grind[nameCh])) (fun h2=>.no (dF ((↑x.toNat:Int)<(48:Int)) h2)<|.idxs (show idxsA (.str s) (.int .i64 ↑i)=some (.int .u8 (↑x.toNat))from idx_str hd)<|.split ((57:Int)<(↑x.toNat:Int)) (fun h3=>.yes (dT ((57:Int)<(↑x.toNat:Int)) h3)<|.fin ((.ret (.bool false),ζ1)) (by simp only[IsRet];grind[nameCh])) (fun h3=>.no (dF ((57:Int)<(↑x.toNat:Int)) h3)<|.bin (iI i)<|.cutQ k66_0 [(0,.str s),(3,.int .i64 (↑(i+1)))] (ζ1) (fun T hT=>(ih (i+1) hnx T hT).to (by grind[nameCh]))))) (fun h1=>.no (dF ((↑x.toNat:Int)<(97:Int)) h1)<|.idxs (show idxsA (.str s) (.int .i64 ↑i)=some (.int .u8 (↑x.toNat))from idx_str hd)<|.split ((122:Int)<(↑x.toNat:Int)) (fun h2=>.yes (dT ((122:Int)<(↑x.toNat:Int)) h2)<|.idxs (show idxsA (.str s) (.int .i64 ↑i)=some (.int .u8 (↑x.toNat))from idx_str hd)<|.no (dF ((↑x.toNat:Int)<(48:Int)))<|.idxs (show idxsA (.str s) (.int .i64 ↑i)=some (.int .u8 (↑x.toNat))from idx_str hd)<|.yes (dT ((57:Int)<(↑x.toNat:Int)))<|.fin ((.ret (.bool false),ζ1)) (by simp only[IsRet];grind[nameCh])) (fun h2=>.no (dF ((122:Int)<(↑x.toNat:Int)) h2)<|.ff<|.bin (iI i)<|.cutQ k66_0 [(0,.str s),(3,.int .i64 (↑(i+1)))] (ζ1) (fun T hT=>(ih (i+1) hnx T hT).to (by grind[nameCh])))))
theorem name_any(s:List UInt8):Gives cfg 66 [.str s] (.bool (isName s)):=by
 refine Gives.run (l66 _ _) ?_
 have h:=fun hn=>name_loop s hn s 0 rfl
 exact let ζ1:Heap:={boxes:=[],toks:=[],loops:=[]:Heap};gG 60 [] trivial (.len (show lenA true (.str s)=some (.int .i64 (↑s.length))from len_str _)<|.split ((↑s.length:Int)<(1:Int)) (fun h1=>.yes (dT ((↑s.length:Int)<(1:Int)) h1)<|.tt<|.fin ((.ret (.bool false),ζ1)) (by simp only[IsRet];grind[isName])) (fun h1=>.no (dF ((↑s.length:Int)<(1:Int)) h1)<|.len (show lenA true (.str s)=some (.int .i64 (↑s.length))from len_str _)<|.split ((12:Int)<(↑s.length:Int)) (fun h2=>.yes (dT ((12:Int)<(↑s.length:Int)) h2)<|.fin ((.ret (.bool false),ζ1)) (by simp only[IsRet];grind[isName])) (fun h2=>.no (dF ((12:Int)<(↑s.length:Int)) h2)<|.cutQ k66_0 [(0,.str s),(3,.int .i64 0)] (ζ1) (fun T hT=>(h (by omega) T hT).to (by grind[isName])))))
def noT:Taint:=⟨[],[],false⟩
def worstV(o:Option Taint):AV:=.tuple [encT (o.getD noT),.bool o.isSome]
end Go.Aa.T
set_option linter.unusedVariables false
set_option linter.unusedSimpArgs false
set_option maxRecDepth 100000
namespace Go.Aa.T
open Go.Aa Go.Proofs
def _root_.Go.Aa.ScrQ.callI{cfg:Cfg}{A:AFunc}{R:ARes×Heap→Prop}{ys:List AV}{g:FuncId}{v:AV}(h:Gives cfg g ys v)(s:ScrQ cfg A R)(hx:ys.map shut2=ys∧ys.all data2=true:=by exact⟨rfl,rfl⟩)(hv:shutA v=v∧isData v=true:=by exact⟨rfl,rfl⟩):ScrQ cfg A R:=.callG ys v h hx hv s
def _root_.Go.Aa.ScrQ.callK{cfg:Cfg}{A:AFunc}{R:ARes×Heap→Prop}(xs:List AV){ys:List AV}{g:FuncId}{v:AV}(w:AV)(h:Gives cfg g ys v)(s:ScrQ cfg A R)(hx:xs.map shut2=ys∧ys.all data2=true:=by exact⟨rfl,rfl⟩)(hv:shutA v=w∧isData w=true:=by exact⟨rfl,rfl⟩):ScrQ cfg A R:=.callG xs w h hx hv s
def same(x y:Taint):Bool:=decide (y.key=x.key)&&decide (y.val=x.val)
def ckTl(l:List Taint):Nat→List Taint→Int
 |_,[]=>0
 |i,x::post=>if isName x.key&&isName x.val then(if(l.take i).any (same x)then 6 else ckTl l (i+1) post)else 3
def ckT(l:List Taint):Int:=if l.length≤8 then ckTl l 0 l else 4
theorem ckT_loop(l:List Taint)(hn:l.length≤8):∀(post:List Taint)(i:Nat)(hd:l.drop i=post)(T:Env)(hT:Has T [(0,.sl .sh (l.map encT)),(3,.int .i64 i)]),
 Goes cfg a211 k211_0 T Heap.nil (IsRet (.int .i64 (ckTl l i post))):=by
 intro post
 induction post with
 |nil=>
  intro i hd T hT
  have hge:=drop_ge hd
  exact gG 60 _ hT (.len (lM .sh encT l)<|.no (dF ((↑i:Int)<(↑l.length:Int)))<|.fin ((.ret (.int .i64 0),{boxes:=[],toks:=[],loops:=[]:Heap})) rfl)
 |cons x post ih=>
  intro i hd T hT
  have hlt:=drop_lt hd
  have hnx:=drop_next hd
  have hx:=drop_at hd
  have inner:∀(q:List Taint)(k:Nat)(hk:(l.take i).drop k=q)(T:Env)(hT:Has T [(0,.sl .sh (l.map encT)),(3,.int .i64 i),(4,.int .i64 k)]),
   Goes cfg a211 k211_1 T Heap.nil (IsRet (.int .i64 (if q.any (same x)then 6 else ckTl l (i+1) post))):=by
   intro q
   induction q with
   |nil=>
    intro k hk T hT
    have hge:i≤k:=by have:=drop_ge hk;simp at this;omega
    exact gG 60 _ hT (.no (dF ((↑k:Int)<(↑i:Int)))<|.bin (iI i)<|.cutQ k211_0 [(0,.sl .sh (l.map encT)),(3,.int .i64 (↑(i+1)))] ({boxes:=[],toks:=[],loops:=[]:Heap}) (fun T hT=>(ih (i+1) hnx T hT)))
   |cons y q ih2=>
    intro k hk T hT
    have hlt2:k<i:=by have:=drop_lt hk;simp at this;omega
    have hnx2:=drop_next hk
    have hy:l[k]?=some y:=by have:=drop_at hk;rw[List.getElem?_take]at this;simpa[hlt2]using this
    exact let ζ1:Heap:={boxes:=[],toks:=[],loops:=[]:Heap};gG 60 _ hT (.yes (dT ((↑k:Int)<(↑i:Int)))<|.idx (show idxA 3 (.sl .sh (l.map encT)) (.int .i64 ↑k)=some (.ref (encT y).cells)from idx_get hy (by rfl))<|.idx (iR 3 encT hd)<|.split ((y.key==x.key)=true) (fun h1=>.yes (show(y.key==x.key)=true from h1)<|.idx (show idxA 3 (.sl .sh (l.map encT)) (.int .i64 ↑k)=some (.ref (encT y).cells)from idx_get hy (by rfl))<|.idx (iR 3 encT hd)<|.split ((y.val==x.val)=true) (fun h2=>.yes (show(y.val==x.val)=true from h2)<|.fin ((.ret (.int .i64 6),ζ1)) (by simp only[IsRet];grind[same])) (fun h2=>.no (show(y.val==x.val)=false from Bool.eq_false_iff.2 h2)<|.bin (iI k)<|.cutQ k211_1 [(0,.sl .sh (l.map encT)),(3,.int .i64 ↑i),(4,.int .i64 (↑(k+1):Int))] (ζ1) (fun T hT=>(ih2 (k+1) hnx2 T hT).to (by grind[same])))) (fun h1=>.no (show(y.key==x.key)=false from Bool.eq_false_iff.2 h1)<|.ff<|.bin (iI k)<|.cutQ k211_1 [(0,.sl .sh (l.map encT)),(3,.int .i64 ↑i),(4,.int .i64 (↑(k+1):Int))] (ζ1) (fun T hT=>(ih2 (k+1) hnx2 T hT).to (by grind[same]))))
  have inner0:=inner (l.take i) 0 rfl
  exact let ζ1:Heap:={boxes:=[],toks:=[],loops:=[]:Heap};gG 60 _ hT (.len (lM .sh encT l)<|.yes (dT ((↑i:Int)<(↑l.length:Int)))<|.idx (iR 3 encT hd)<|.callI (show Gives cfg 66 [.str x.key] (.bool (isName x.key))from name_any _)<|.split (isName x.key=true) (fun h1=>.no (show(!isName x.key)=false from by have hh:isName x.key=true:=h1;simp[hh])<|.idx (iR 3 encT hd)<|.callI (show Gives cfg 66 [.str x.val] (.bool (isName x.val))from name_any _)<|.split (isName x.val=true) (fun h2=>.no (show(!isName x.val)=false from by have hh:isName x.val=true:=h2;simp[hh])<|.cutQ k211_1 [(0,.sl .sh (l.map encT)),(3,.int .i64 ↑i),(4,.int .i64 0)] (ζ1) (fun T hT=>(inner0 T hT).to (by grind[ckTl]))) (fun h2=>.yes (show(!isName x.val)=true from by have hh:¬(isName x.val=true):=h2;simp[hh])<|.fin ((.ret (.int .i64 3),ζ1)) (by simp only[IsRet];grind[ckTl]))) (fun h1=>.yes (show(!isName x.key)=true from by have hh:¬(isName x.key=true):=h1;simp[hh])<|.tt<|.fin ((.ret (.int .i64 3),ζ1)) (by simp only[IsRet];grind[ckTl])))
theorem ckT_any(l:List Taint):Gives cfg 211 [.sl .sh (l.map encT)] (.int .i64 (ckT l)):=by
 refine Gives.run (l211 _ _) ?_
 have h:=fun hn=>ckT_loop l hn l 0 rfl
 exact let ζ1:Heap:={boxes:=[],toks:=[],loops:=[]:Heap};gG 60 [] trivial (.len (lM .sh encT l)<|.split ((8:Int)<(↑l.length:Int)) (fun h1=>.yes (dT ((8:Int)<(↑l.length:Int)) h1)<|.fin ((.ret (.int .i64 4),ζ1)) (by simp only[IsRet];grind[ckT])) (fun h1=>.no (dF ((8:Int)<(↑l.length:Int)) h1)<|.cutQ k211_0 [(0,.sl .sh (l.map encT)),(3,.int .i64 0)] (ζ1) (fun T hT=>(h (by omega) T hT).to (by grind[ckT]))))
def okL(x:Tol):Bool:=(decide (x.key=[])||isName x.key)&&(if x.any then decide (x.val=[])else isName x.val)
def ckL(l:List Tol):Int:=if l.length≤8 then(if l.all okL then 0 else 3)else 4
theorem ckL_loop(l:List Tol)(hn:l.length≤8):∀(post:List Tol)(i:Nat)(bs:List (List AV))(hd:l.drop i=post)(T:Env)(hT:Has T [(0,.sl .sh (l.map encL)),(3,.int .i64 i)]),
 Goes cfg a70 k70_0 T ⟨bs,[],[]⟩ (IsRet (.int .i64 (if post.all okL then 0 else 3))):=by
 intro post
 induction post with
 |nil=>
  intro i bs hd T hT
  have hge:=drop_ge hd
  exact gG 60 _ hT (.len (lM .sh encL l)<|.no (dF ((↑i:Int)<(↑l.length:Int)))<|.fin ((.ret (.int .i64 0),{boxes:=bs,toks:=[],loops:=[]:Heap})) rfl)
 |cons x post ih=>
  intro i bs hd T hT
  have hlt:=drop_lt hd
  have hnx:=drop_next hd
  exact let ζ2:List AV:=[.str x.key,.str x.val,.bool x.any];let ζ1:Heap:={boxes:=bs++[ζ2],toks:=[],loops:=[]:Heap};gG 60 _ hT (.len (lM .sh encL l)<|.yes (dT ((↑i:Int)<(↑l.length:Int)))<|.idx (iR 3 encL hd)<|.load (rfl:loadA true 3 {boxes:=bs,toks:=[],loops:=[]:Heap} (.ref ζ2)=some (.agg ζ2))<|.store (show storeA 3 {boxes:=bs++[[AV.str [],.str [],.bool false]],toks:=[],loops:=[]:Heap} (.ptr bs.length 0) (.agg ζ2)=some (ζ1)from store_box2 (cs:=[.str [],.str [],.bool false]) (cs':=ζ2) (by simp+zetaDelta) rfl (by simp+zetaDelta [List.set_append]))<|.load (lB false 1 ζ1 bs.length 0 (.str x.key) ζ2)<|.split ((x.key==[])=true) (fun h1=>.no (show(!x.key==[])=false from by have hh:(x.key==[])=true:=h1;simp[hh])<|.ff<|.load (lB false 1 ζ1 bs.length 2 (.bool x.any) ζ2)<|.split (x.any=true) (fun h2=>.yes (show(x.any)=true from h2)<|.load (lB false 1 ζ1 bs.length 1 (.str x.val) ζ2)<|.split ((x.val==[])=true) (fun h3=>.no (show(!x.val==[])=false from by have hh:(x.val==[])=true:=h3;simp[hh])<|.load (lB false 1 ζ1 bs.length 2 (.bool x.any) ζ2)<|.no (show(!x.any)=false from by have hh:x.any=true:=(by omega);simp[hh])<|.ff<|.bin (iI i)<|.cutQ k70_0 [(0,.sl .sh (l.map encL)),(3,.int .i64 (↑(i+1)))] (ζ1) (fun T hT=>(ih (i+1) (bs++[ζ2]) hnx T hT).to (by grind[okL]))) (fun h3=>.yes (show(!x.val==[])=true from by have hh:¬((x.val==[])=true):=h3;simp[hh])<|.tt<|.fin ((.ret (.int .i64 3),ζ1)) (by simp only[IsRet];grind[okL]))) (fun h2=>.no (show(x.any)=false from Bool.eq_false_iff.2 h2)<|.ff<|.load (lB false 1 ζ1 bs.length 2 (.bool x.any) ζ2)<|.yes (show(!x.any)=true from by have hh:¬(x.any=true):=(by omega);simp[hh])<|.load (lB false 1 ζ1 bs.length 1 (.str x.val) ζ2)<|.callI (show Gives cfg 66 [.str x.val] (.bool (isName x.val))from name_any _)<|.split (isName x.val=true) (fun h3=>.no (show(!isName x.val)=false from by have hh:isName x.val=true:=h3;simp[hh])<|.bin (iI i)<|.cutQ k70_0 [(0,.sl .sh (l.map encL)),(3,.int .i64 (↑(i+1)))] (ζ1) (fun T hT=>(ih (i+1) (bs++[ζ2]) hnx T hT).to (by grind[okL]))) (fun h3=>.yes (show(!isName x.val)=true from by have hh:¬(isName x.val=true):=h3;simp[hh])<|.fin ((.ret (.int .i64 3),ζ1)) (by simp only[IsRet];grind[okL])))) (fun h1=>.yes (show(!x.key==[])=true from by have hh:¬((x.key==[])=true):=h1;simp[hh])<|.load (lB false 1 ζ1 bs.length 0 (.str x.key) ζ2)<|.callI (show Gives cfg 66 [.str x.key] (.bool (isName x.key))from name_any _)<|.split (isName x.key=true) (fun h2=>.no (show(!isName x.key)=false from by have hh:isName x.key=true:=h2;simp[hh])<|.load (lB false 1 ζ1 bs.length 2 (.bool x.any) ζ2)<|.split (x.any=true) (fun h3=>.yes (show(x.any)=true from h3)<|.load (lB false 1 ζ1 bs.length 1 (.str x.val) ζ2)<|.split ((x.val==[])=true) (fun h4=>.no (show(!x.val==[])=false from by have hh:(x.val==[])=true:=h4;simp[hh])<|.load (lB false 1 ζ1 bs.length 2 (.bool x.any) ζ2)<|.no (show(!x.any)=false from by have hh:x.any=true:=(by omega);simp[hh])<|.ff<|.bin (iI i)<|.cutQ k70_0 [(0,.sl .sh (l.map encL)),(3,.int .i64 (↑(i+1)))] (ζ1) (fun T hT=>(ih (i+1) (bs++[ζ2]) hnx T hT).to (by grind[okL]))) (fun h4=>.yes (show(!x.val==[])=true from by have hh:¬((x.val==[])=true):=h4;simp[hh])<|.tt<|.fin ((.ret (.int .i64 3),ζ1)) (by simp only[IsRet];grind[okL]))) (fun h3=>.no (show(x.any)=false from Bool.eq_false_iff.2 h3)<|.ff<|.load (lB false 1 ζ1 bs.length 2 (.bool x.any) ζ2)<|.yes (show(!x.any)=true from by have hh:¬(x.any=true):=(by omega);simp[hh])<|.load (lB false 1 ζ1 bs.length 1 (.str x.val) ζ2)<|.callI (show Gives cfg 66 [.str x.val] (.bool (isName x.val))from name_any _)<|.split (isName x.val=true) (fun h4=>.no (show(!isName x.val)=false from by have hh:isName x.val=true:=h4;simp[hh])<|.bin (iI i)<|.cutQ k70_0 [(0,.sl .sh (l.map encL)),(3,.int .i64 (↑(i+1)))] (ζ1) (fun T hT=>(ih (i+1) (bs++[ζ2]) hnx T hT).to (by grind[okL]))) (fun h4=>.yes (show(!isName x.val)=true from by have hh:¬(isName x.val=true):=h4;simp[hh])<|.fin ((.ret (.int .i64 3),ζ1)) (by simp only[IsRet];grind[okL])))) (fun h2=>.yes (show(!isName x.key)=true from by have hh:¬(isName x.key=true):=h2;simp[hh])<|.tt<|.tt<|.fin ((.ret (.int .i64 3),ζ1)) (by simp only[IsRet];grind[okL]))))
theorem ckL_any(l:List Tol):Gives cfg 70 [.sl .sh (l.map encL)] (.int .i64 (ckL l)):=by
 refine Gives.run (l70 _ _) ?_
 have h:=fun hn=>ckL_loop l hn l 0 [] rfl
 exact let ζ1:Heap:={boxes:=[],toks:=[],loops:=[]:Heap};gG 60 [] trivial (.len (lM .sh encL l)<|.split ((8:Int)<(↑l.length:Int)) (fun h1=>.yes (dT ((8:Int)<(↑l.length:Int)) h1)<|.fin ((.ret (.int .i64 4),ζ1)) (by simp only[IsRet];grind[ckL])) (fun h1=>.no (dF ((8:Int)<(↑l.length:Int)) h1)<|.cutQ k70_0 [(0,.sl .sh (l.map encL)),(3,.int .i64 0)] (ζ1) (fun T hT=>(h (by omega) T hT).to (by grind[ckL]))))
end Go.Aa.T
set_option linter.unusedVariables false
set_option linter.unusedSimpArgs false
set_option maxRecDepth 100000
namespace Go.Aa.T
open Go.Aa Go.Proofs
def alnum:List UInt8:=[97,98,99,100,101,102,103,104,105,106,107,108,109,110,111,112,113,114,115,116,117,118,119,120,121,122,48,49,50,51,52,53,54,55,56,57]
theorem alnum_ch(c:UInt8):alnum.contains c=nameCh c:=by
 have:∀n:Fin 256,alnum.contains (UInt8.ofNat n.val)=nameCh (UInt8.ofNat n.val):=by decide+kernel
 have h:=this ⟨c.toNat,c.toNat_lt⟩
 simpa using h
theorem dropWhile_nil{p:UInt8→Bool}:∀{l:List UInt8},l.dropWhile p=[]↔l.all p=true
 |[]=>by simp
 |c::l=>by
  by_cases h:p c=true
  ·simp[List.dropWhile_cons,h,dropWhile_nil]
  ·simp[List.dropWhile_cons,h]
theorem trim_nil(s:List UInt8):Lib.trimS s alnum=[]↔s.all nameCh=true:=by
 have hp:(fun c=>alnum.contains c)=nameCh:=funext alnum_ch
 unfold Lib.trimS Lib.trimLeftS Lib.trimRightS
 rw[hp,dropWhile_nil,List.all_reverse]
 constructor
 ·intro h
  have e:=List.takeWhile_append_dropWhile (p:=nameCh) (l:=s.reverse)
  have:s.reverse.all nameCh=true:=by
   rw[←e,List.all_append,h,Bool.and_true]
   exact List.all_takeWhile
  rwa [List.all_reverse]at this
 ·intro h
  have:s.reverse.dropWhile nameCh=[]:=dropWhile_nil.2 (by rwa [List.all_reverse])
  rw[this];rfl
theorem trim_any(s:List UInt8)(h:s.length≤9223372036854775807):Gives cfg 215 [.str s,.str alnum] (.str (Lib.trimS s alnum)):=by
 refine Gives.of (H':=Heap.nil) ?_
 rw[lim_ext (g:=trimE) rfl rfl]
 have:trimE [.str s,.str alnum] Heap.nil=some (.str (Lib.trimS s alnum),Heap.nil):=if_pos ⟨h,by decide,by decide⟩
 rw[this];rfl
theorem res_name(s:List UInt8):Gives cfg 196 [.str s] (.bool (isName s)):=by
 refine Gives.run (l196 _ _) ?_
 have ht:=trim_nil s
 exact let ζ1:Heap:={boxes:=[],toks:=[],loops:=[]:Heap};gG 60 [] trivial (.len (show lenA true (.str s)=some (.int .i64 (↑s.length))from len_str _)<|.split ((1:Int)≤(↑s.length:Int)) (fun h1=>.yes (dT ((1:Int)≤(↑s.length:Int)) h1)<|.len (show lenA true (.str s)=some (.int .i64 (↑s.length))from len_str _)<|.split ((↑s.length:Int)≤(12:Int)) (fun h2=>.yes (dT ((↑s.length:Int)≤(12:Int)) h2)<|.callK ([.str s,.str [(97:UInt8),(98:UInt8),(99:UInt8),(100:UInt8),(101:UInt8),(102:UInt8),(103:UInt8),(104:UInt8),(105:UInt8),(106:UInt8),(107:UInt8),(108:UInt8),(109:UInt8),(110:UInt8),(111:UInt8),(112:UInt8),(113:UInt8),(114:UInt8),(115:UInt8),(116:UInt8),(117:UInt8),(118:UInt8),(119:UInt8),(120:UInt8),(121:UInt8),(122:UInt8),(48:UInt8),(49:UInt8),(50:UInt8),(51:UInt8),(52:UInt8),(53:UInt8),(54:UInt8),(55:UInt8),(56:UInt8),(57:UInt8)]]) (.str (Lib.trimS s alnum)) (show Gives cfg 215 [.str s,.str alnum] (.str (Lib.trimS s alnum))from trim_any _ (by omega))<|.fin ((.ret (.bool (Lib.trimS s alnum==[])),ζ1)) (by simp only[IsRet];grind[isName])) (fun h2=>.no (dF ((↑s.length:Int)≤(12:Int)) h2)<|.fin ((.ret (.bool false),ζ1)) (by simp only[IsRet];grind[isName]))) (fun h1=>.no (dF ((1:Int)≤(↑s.length:Int)) h1)<|.ff<|.fin ((.ret (.bool false),ζ1)) (by simp only[IsRet];grind[isName])))
end Go.Aa.T
set_option linter.unusedVariables false
set_option linter.unusedSimpArgs false
set_option maxRecDepth 100000
namespace Go.Aa.T
open Go.Aa Go.Proofs
structure Pair where
 key:List UInt8
 val:List UInt8
structure Term where
 op:Int
 key:List UInt8
 val:List UInt8
def Pair.cells(t:Pair):List AV:=[.str t.key,.str t.val]
def Term.cells(t:Term):List AV:=[.int .i64 t.op,.str t.key,.str t.val]
def encP(t:Pair):AV:=.agg t.cells
def encM(t:Term):AV:=.agg t.cells
def fewP(l:List Pair):Bool:=decide (l.length≤20)&&few (fun t=>(t.key,t.val)) l
def fewM(l:List Term):Bool:=decide (l.length≤20)&&few (fun t=>(t.key,t.val)) l
theorem fewP_len{l:List Pair}(h:fewP l=true):l.length≤20:=by
 simp only[fewP,Bool.and_eq_true,decide_eq_true_eq]at h;exact h.1
theorem fewM_len{l:List Term}(h:fewM l=true):l.length≤20:=by
 simp only[fewM,Bool.and_eq_true,decide_eq_true_eq]at h;exact h.1
theorem fewP_loop(l:List Pair)(hn:l.length≤20):∀(post:List Pair)(i:Nat)(hd:l.drop i=post)(T:Env)(hT:Has T [(0,.sl .sh (l.map encP)),(3,.int .i64 i)]),
 Goes cfg a63 k63_0 T Heap.nil (IsRet (.bool (few (fun t=>(t.key,t.val)) post))):=by
 intro post
 induction post with
 |nil=>
  intro i hd T hT
  have hge:=drop_ge hd
  exact gG 60 _ hT (.len (lM .sh encP l)<|.no (dF ((↑i:Int)<(↑l.length:Int)))<|.fin ((.ret (.bool true),{boxes:=[],toks:=[],loops:=[]:Heap})) rfl)
 |cons x post ih=>
  intro i hd T hT
  have hlt:=drop_lt hd
  have hnx:=drop_next hd
  exact let ζ1:Heap:={boxes:=[],toks:=[],loops:=[]:Heap};gG 60 _ hT (.len (lM .sh encP l)<|.yes (dT ((↑i:Int)<(↑l.length:Int)))<|.idx (iR 2 encP hd)<|.len (show lenA true (.str x.key)=some (.int .i64 (↑x.key.length))from len_str _)<|.split ((50:Int)<(↑x.key.length:Int)) (fun h1=>.yes (dT ((50:Int)<(↑x.key.length:Int)) h1)<|.tt<|.fin ((.ret (.bool false),ζ1)) (by simp only[IsRet];grind[few])) (fun h1=>.no (dF ((50:Int)<(↑x.key.length:Int)) h1)<|.idx (iR 2 encP hd)<|.len (show lenA true (.str x.val)=some (.int .i64 (↑x.val.length))from len_str _)<|.split ((50:Int)<(↑x.val.length:Int)) (fun h2=>.yes (dT ((50:Int)<(↑x.val.length:Int)) h2)<|.fin ((.ret (.bool false),ζ1)) (by simp only[IsRet];grind[few])) (fun h2=>.no (dF ((50:Int)<(↑x.val.length:Int)) h2)<|.bin (iI i)<|.cutQ k63_0 [(0,.sl .sh (l.map encP)),(3,.int .i64 (↑(i+1)))] (ζ1) (fun T hT=>(ih (i+1) hnx T hT).to (by grind[few])))))
theorem fewM_loop(l:List Term)(hn:l.length≤20):∀(post:List Term)(i:Nat)(hd:l.drop i=post)(T:Env)(hT:Has T [(0,.sl .sh (l.map encM)),(3,.int .i64 i)]),
 Goes cfg a64 k64_0 T Heap.nil (IsRet (.bool (few (fun t=>(t.key,t.val)) post))):=by
 intro post
 induction post with
 |nil=>
  intro i hd T hT
  have hge:=drop_ge hd
  exact gG 60 _ hT (.len (lM .sh encM l)<|.no (dF ((↑i:Int)<(↑l.length:Int)))<|.fin ((.ret (.bool true),{boxes:=[],toks:=[],loops:=[]:Heap})) rfl)
 |cons x post ih=>
  intro i hd T hT
  have hlt:=drop_lt hd
  have hnx:=drop_next hd
  exact let ζ1:Heap:={boxes:=[],toks:=[],loops:=[]:Heap};gG 60 _ hT (.len (lM .sh encM l)<|.yes (dT ((↑i:Int)<(↑l.length:Int)))<|.idx (iR 3 encM hd)<|.len (show lenA true (.str x.key)=some (.int .i64 (↑x.key.length))from len_str _)<|.split ((50:Int)<(↑x.key.length:Int)) (fun h1=>.yes (dT ((50:Int)<(↑x.key.length:Int)) h1)<|.tt<|.fin ((.ret (.bool false),ζ1)) (by simp only[IsRet];grind[few])) (fun h1=>.no (dF ((50:Int)<(↑x.key.length:Int)) h1)<|.idx (iR 3 encM hd)<|.len (show lenA true (.str x.val)=some (.int .i64 (↑x.val.length))from len_str _)<|.split ((50:Int)<(↑x.val.length:Int)) (fun h2=>.yes (dT ((50:Int)<(↑x.val.length:Int)) h2)<|.fin ((.ret (.bool false),ζ1)) (by simp only[IsRet];grind[few])) (fun h2=>.no (dF ((50:Int)<(↑x.val.length:Int)) h2)<|.bin (iI i)<|.cutQ k64_0 [(0,.sl .sh (l.map encM)),(3,.int .i64 (↑(i+1)))] (ζ1) (fun T hT=>(ih (i+1) hnx T hT).to (by grind[few])))))
theorem fewP_any(l:List Pair):Gives cfg 63 [.sl .sh (l.map encP)] (.bool (fewP l)):=by
 refine Gives.run (l63 _ _) ?_
 have h:=fun hn=>fewP_loop l hn l 0 rfl
 exact let ζ1:Heap:={boxes:=[],toks:=[],loops:=[]:Heap};gG 60 [] trivial (.len (lM .sh encP l)<|.split ((20:Int)<(↑l.length:Int)) (fun h1=>.yes (dT ((20:Int)<(↑l.length:Int)) h1)<|.fin ((.ret (.bool false),ζ1)) (by simp only[IsRet];grind[fewP])) (fun h1=>.no (dF ((20:Int)<(↑l.length:Int)) h1)<|.cutQ k63_0 [(0,.sl .sh (l.map encP)),(3,.int .i64 0)] (ζ1) (fun T hT=>(h (by omega) T hT).to (by grind[fewP]))))
theorem fewM_any(l:List Term):Gives cfg 64 [.sl .sh (l.map encM)] (.bool (fewM l)):=by
 refine Gives.run (l64 _ _) ?_
 have h:=fun hn=>fewM_loop l hn l 0 rfl
 exact let ζ1:Heap:={boxes:=[],toks:=[],loops:=[]:Heap};gG 60 [] trivial (.len (lM .sh encM l)<|.split ((20:Int)<(↑l.length:Int)) (fun h1=>.yes (dT ((20:Int)<(↑l.length:Int)) h1)<|.fin ((.ret (.bool false),ζ1)) (by simp only[IsRet];grind[fewM])) (fun h1=>.no (dF ((20:Int)<(↑l.length:Int)) h1)<|.cutQ k64_0 [(0,.sl .sh (l.map encM)),(3,.int .i64 0)] (ζ1) (fun T hT=>(h (by omega) T hT).to (by grind[fewM]))))
theorem ofP_loop(l:List Pair)(hn:l.length≤20):∀(post:List Pair)(i:Nat)(acc:List AV)(hd:l.drop i=post)(ha:acc.length=i)(hl:lenOk 2 acc=true)(T:Env)(hT:Has T [(0,.sl .sh (l.map encP)),(3,rowS Heap.nil acc),(4,.int .i64 i)]),
 Goes cfg a71 k71_0 T (rowH Heap.nil acc) (IsRet (rowS Heap.nil (acc++post.map encP))):=by
 intro post
 induction post with
 |nil=>
  intro i acc hd ha hl T hT
  have hge:=drop_ge hd
  exact gG 60 _ hT (.len (lM .sh encP l)<|.no (dF ((↑i:Int)<(↑l.length:Int)))<|.fin ((.ret (setD (setD (setD (setD (setD (setD (updL T [(0,.sl .sh (l.map encP)),(3,rowS Heap.nil acc),(4,.int .i64 ↑i)]) (some 5) (ev (updL T [(0,.sl .sh (l.map encP)),(3,rowS Heap.nil acc),(4,.int .i64 ↑i)]) (.t 4))) (some 6) (ev (setD (updL T [(0,.sl .sh (l.map encP)),(3,rowS Heap.nil acc),(4,.int .i64 ↑i)]) (some 5) (ev (updL T [(0,.sl .sh (l.map encP)),(3,rowS Heap.nil acc),(4,.int .i64 ↑i)]) (.t 4))) (.t 0))) (some 7) (.int .i64 (↑l.length))) (some 8) (.bool (decide ((↑i:Int)<(↑l.length:Int))))) (some 25) (ev (setD (setD (setD (setD (updL T [(0,.sl .sh (l.map encP)),(3,rowS Heap.nil acc),(4,.int .i64 ↑i)]) (some 5) (ev (updL T [(0,.sl .sh (l.map encP)),(3,rowS Heap.nil acc),(4,.int .i64 ↑i)]) (.t 4))) (some 6) (ev (setD (updL T [(0,.sl .sh (l.map encP)),(3,rowS Heap.nil acc),(4,.int .i64 ↑i)]) (some 5) (ev (updL T [(0,.sl .sh (l.map encP)),(3,rowS Heap.nil acc),(4,.int .i64 ↑i)]) (.t 4))) (.t 0))) (some 7) (.int .i64 (↑l.length))) (some 8) (.bool (decide ((↑i:Int)<(↑l.length:Int))))) (.t 3))) (some 2) (ev (setD (setD (setD (setD (setD (updL T [(0,.sl .sh (l.map encP)),(3,rowS Heap.nil acc),(4,.int .i64 ↑i)]) (some 5) (ev (updL T [(0,.sl .sh (l.map encP)),(3,rowS Heap.nil acc),(4,.int .i64 ↑i)]) (.t 4))) (some 6) (ev (setD (updL T [(0,.sl .sh (l.map encP)),(3,rowS Heap.nil acc),(4,.int .i64 ↑i)]) (some 5) (ev (updL T [(0,.sl .sh (l.map encP)),(3,rowS Heap.nil acc),(4,.int .i64 ↑i)]) (.t 4))) (.t 0))) (some 7) (.int .i64 (↑l.length))) (some 8) (.bool (decide ((↑i:Int)<(↑l.length:Int))))) (some 25) (ev (setD (setD (setD (setD (updL T [(0,.sl .sh (l.map encP)),(3,rowS Heap.nil acc),(4,.int .i64 ↑i)]) (some 5) (ev (updL T [(0,.sl .sh (l.map encP)),(3,rowS Heap.nil acc),(4,.int .i64 ↑i)]) (.t 4))) (some 6) (ev (setD (updL T [(0,.sl .sh (l.map encP)),(3,rowS Heap.nil acc),(4,.int .i64 ↑i)]) (some 5) (ev (updL T [(0,.sl .sh (l.map encP)),(3,rowS Heap.nil acc),(4,.int .i64 ↑i)]) (.t 4))) (.t 0))) (some 7) (.int .i64 (↑l.length))) (some 8) (.bool (decide ((↑i:Int)<(↑l.length:Int))))) (.t 3))) (.t 25)) 2),rowH Heap.nil acc)) (by simp only[IsRet,List.map_nil,List.append_nil];rfl))
 |cons x post ih=>
  intro i acc hd ha hl T hT
  have hlt:=drop_lt hd
  have hnx:=drop_next hd
  exact gG 60 _ hT (.len (lM .sh encP l)<|.yes (dT ((↑i:Int)<(↑l.length:Int)) (by simp;omega))<|.idx (iR 2 encP hd)<|.load (rfl:loadA false 1 (rowH Heap.nil acc) (.ref [.str x.key])=some (.str x.key))<|.idx (iR 2 encP hd)<|.load (rfl:loadA false 1 (rowH Heap.nil acc) (.ref [.str x.val])=some (.str x.val))<|.append (show appendA 2 32 (rowH Heap.nil acc) (rowS Heap.nil acc) (.sl .full [.agg [.str x.key,.str x.val]])=some ((rowS Heap.nil (acc++[AV.agg [.str x.key,.str x.val]]),rowH Heap.nil (acc++[AV.agg [.str x.key,.str x.val]])))from row_append (by omega) hl (by rfl) (by rfl))<|.bin (iI i)<|.cutQ k71_0 [(0,.sl .sh (l.map encP)),(3,rowS Heap.nil (acc++[AV.agg [.str x.key,.str x.val]])),(4,.int .i64 (↑(i+1)))] (rowH Heap.nil (acc++[AV.agg [.str x.key,.str x.val]])) (fun T hT=>(ih (i+1) (acc++[AV.agg [.str x.key,.str x.val]]) hnx (by simp;omega) (by exact lenOk_snoc (by assumption) rfl) T hT).to (by simp[encP,Pair.cells])))
theorem ofM_loop(l:List Term)(hn:l.length≤20):∀(post:List Term)(i:Nat)(acc:List AV)(hd:l.drop i=post)(ha:acc.length=i)(hl:lenOk 3 acc=true)(T:Env)(hT:Has T [(0,.sl .sh (l.map encM)),(3,rowS Heap.nil acc),(4,.int .i64 i)]),
 Goes cfg a72 k72_0 T (rowH Heap.nil acc) (IsRet (rowS Heap.nil (acc++post.map encM))):=by
 intro post
 induction post with
 |nil=>
  intro i acc hd ha hl T hT
  have hge:=drop_ge hd
  exact gG 60 _ hT (.len (lM .sh encM l)<|.no (dF ((↑i:Int)<(↑l.length:Int)))<|.fin ((.ret (setD (setD (setD (setD (setD (setD (updL T [(0,.sl .sh (l.map encM)),(3,rowS Heap.nil acc),(4,.int .i64 ↑i)]) (some 5) (ev (updL T [(0,.sl .sh (l.map encM)),(3,rowS Heap.nil acc),(4,.int .i64 ↑i)]) (.t 4))) (some 6) (ev (setD (updL T [(0,.sl .sh (l.map encM)),(3,rowS Heap.nil acc),(4,.int .i64 ↑i)]) (some 5) (ev (updL T [(0,.sl .sh (l.map encM)),(3,rowS Heap.nil acc),(4,.int .i64 ↑i)]) (.t 4))) (.t 0))) (some 7) (.int .i64 (↑l.length))) (some 8) (.bool (decide ((↑i:Int)<(↑l.length:Int))))) (some 30) (ev (setD (setD (setD (setD (updL T [(0,.sl .sh (l.map encM)),(3,rowS Heap.nil acc),(4,.int .i64 ↑i)]) (some 5) (ev (updL T [(0,.sl .sh (l.map encM)),(3,rowS Heap.nil acc),(4,.int .i64 ↑i)]) (.t 4))) (some 6) (ev (setD (updL T [(0,.sl .sh (l.map encM)),(3,rowS Heap.nil acc),(4,.int .i64 ↑i)]) (some 5) (ev (updL T [(0,.sl .sh (l.map encM)),(3,rowS Heap.nil acc),(4,.int .i64 ↑i)]) (.t 4))) (.t 0))) (some 7) (.int .i64 (↑l.length))) (some 8) (.bool (decide ((↑i:Int)<(↑l.length:Int))))) (.t 3))) (some 2) (ev (setD (setD (setD (setD (setD (updL T [(0,.sl .sh (l.map encM)),(3,rowS Heap.nil acc),(4,.int .i64 ↑i)]) (some 5) (ev (updL T [(0,.sl .sh (l.map encM)),(3,rowS Heap.nil acc),(4,.int .i64 ↑i)]) (.t 4))) (some 6) (ev (setD (updL T [(0,.sl .sh (l.map encM)),(3,rowS Heap.nil acc),(4,.int .i64 ↑i)]) (some 5) (ev (updL T [(0,.sl .sh (l.map encM)),(3,rowS Heap.nil acc),(4,.int .i64 ↑i)]) (.t 4))) (.t 0))) (some 7) (.int .i64 (↑l.length))) (some 8) (.bool (decide ((↑i:Int)<(↑l.length:Int))))) (some 30) (ev (setD (setD (setD (setD (updL T [(0,.sl .sh (l.map encM)),(3,rowS Heap.nil acc),(4,.int .i64 ↑i)]) (some 5) (ev (updL T [(0,.sl .sh (l.map encM)),(3,rowS Heap.nil acc),(4,.int .i64 ↑i)]) (.t 4))) (some 6) (ev (setD (updL T [(0,.sl .sh (l.map encM)),(3,rowS Heap.nil acc),(4,.int .i64 ↑i)]) (some 5) (ev (updL T [(0,.sl .sh (l.map encM)),(3,rowS Heap.nil acc),(4,.int .i64 ↑i)]) (.t 4))) (.t 0))) (some 7) (.int .i64 (↑l.length))) (some 8) (.bool (decide ((↑i:Int)<(↑l.length:Int))))) (.t 3))) (.t 30)) 2),rowH Heap.nil acc)) (by simp only[IsRet,List.map_nil,List.append_nil];rfl))
 |cons x post ih=>
  intro i acc hd ha hl T hT
  have hlt:=drop_lt hd
  have hnx:=drop_next hd
  exact gG 60 _ hT (.len (lM .sh encM l)<|.yes (dT ((↑i:Int)<(↑l.length:Int)) (by simp;omega))<|.idx (iR 3 encM hd)<|.load (rfl:loadA false 1 (rowH Heap.nil acc) (.ref [.int .i64 x.op])=some (.int .i64 x.op))<|.idx (iR 3 encM hd)<|.load (rfl:loadA false 1 (rowH Heap.nil acc) (.ref [.str x.key])=some (.str x.key))<|.idx (iR 3 encM hd)<|.load (rfl:loadA false 1 (rowH Heap.nil acc) (.ref [.str x.val])=some (.str x.val))<|.append (show appendA 3 40 (rowH Heap.nil acc) (rowS Heap.nil acc) (.sl .full [.agg [.int .i64 x.op,.str x.key,.str x.val]])=some ((rowS Heap.nil (acc++[AV.agg [.int .i64 x.op,.str x.key,.str x.val]]),rowH Heap.nil (acc++[AV.agg [.int .i64 x.op,.str x.key,.str x.val]])))from row_append (by omega) hl (by rfl) (by rfl))<|.bin (iI i)<|.cutQ k72_0 [(0,.sl .sh (l.map encM)),(3,rowS Heap.nil (acc++[AV.agg [.int .i64 x.op,.str x.key,.str x.val]])),(4,.int .i64 (↑(i+1)))] (rowH Heap.nil (acc++[AV.agg [.int .i64 x.op,.str x.key,.str x.val]])) (fun T hT=>(ih (i+1) (acc++[AV.agg [.int .i64 x.op,.str x.key,.str x.val]]) hnx (by simp;omega) (by exact lenOk_snoc (by assumption) rfl) T hT).to (by simp[encM,Term.cells])))
theorem ofP_any(l:List Pair)(hn:l.length≤20):Gives cfg 71 [.sl .sh (l.map encP)] (rowS Heap.nil (l.map encP)):=by
 refine Gives.run (l71 _ _) ?_
 have h:=ofP_loop l hn l 0 [] rfl rfl rfl
 exact gG 60 [] trivial (.cutQ k71_0 [(0,.sl .sh (l.map encP)),(3,.sl .full []),(4,.int .i64 0)] ({boxes:=[],toks:=[],loops:=[]:Heap}) (fun T hT=>(h T hT)))
theorem ofM_any(l:List Term)(hn:l.length≤20):Gives cfg 72 [.sl .sh (l.map encM)] (rowS Heap.nil (l.map encM)):=by
 refine Gives.run (l72 _ _) ?_
 have h:=ofM_loop l hn l 0 [] rfl rfl rfl
 exact gG 60 [] trivial (.cutQ k72_0 [(0,.sl .sh (l.map encM)),(3,.sl .full []),(4,.int .i64 0)] ({boxes:=[],toks:=[],loops:=[]:Heap}) (fun T hT=>(h T hT)))
def ordB(s:List Pair)(i:Nat)(x:Pair):Bool:=match i with
 |0=>false
 |j+1=>match s[j]? with
  |some p=>Op.bytesLess x.key p.key||x.key==p.key
  |none=>false
def ckSl(s:List Pair):Nat→List Pair→Int
 |_,[]=>0
 |i,x::post=>if isName x.key&&isName x.val then(if ordB s i x then 13 else ckSl s (i+1) post)else 3
def ckS(s:List Pair):Int:=if s.length≤8 then ckSl s 0 s else 4
theorem dec_i{i:Nat}(h:i<9223372036854775807):binA .sub (.int .i64 ((i+1:Nat):Int)) (.int .i64 1)=some (.int .i64 (i:Int)):=by
 rw[subI (by omega) (by omega)];congr 2;omega
theorem ckS_ref_loop(l:List Pair)(hn:l.length≤8):∀(post:List Pair)(i:Nat)(hd:l.drop i=post)(T:Env)(hT:Has T [(0,.sl .sh (l.map encP)),(3,.int .i64 i)]),
 Goes cfg a68 k68_0 T Heap.nil (IsRet (.int .i64 (ckSl l i post))):=by
 intro post
 induction post with
 |nil=>
  intro i hd T hT
  have hge:=drop_ge hd
  exact gG 60 _ hT (.len (lM .sh encP l)<|.no (dF ((↑i:Int)<(↑l.length:Int)))<|.fin ((.ret (.int .i64 0),{boxes:=[],toks:=[],loops:=[]:Heap})) rfl)
 |cons x post ih=>
  intro i hd T hT
  have hlt:=drop_lt hd
  have hnx:=drop_next hd
  cases i with
  |zero=>exact let ζ1:Heap:={boxes:=[],toks:=[],loops:=[]:Heap};gG 60 _ hT (.len (lM .sh encP l)<|.yes (dT ((↑(0:Nat):Int)<(↑l.length:Int)))<|.idx (show idxA 2 (.sl .sh (l.map encP)) (.int .i64 (↑(0:Nat):Int))=some (.ref (encP x).cells)from idx_row hd (by rfl))<|.callI (show Gives cfg 66 [.str x.key] (.bool (isName x.key))from name_any _)<|.split (isName x.key=true) (fun h1=>.no (show(!isName x.key)=false from by have hh:isName x.key=true:=h1;simp[hh])<|.idx (show idxA 2 (.sl .sh (l.map encP)) (.int .i64 (↑(0:Nat):Int))=some (.ref (encP x).cells)from idx_row hd (by rfl))<|.callI (show Gives cfg 66 [.str x.val] (.bool (isName x.val))from name_any _)<|.split (isName x.val=true) (fun h2=>.no (show(!isName x.val)=false from by have hh:isName x.val=true:=h2;simp[hh])<|.ff<|.ff<|.bin (show binA .add (.int .i64 (↑(0:Nat):Int)) (.int .i64 1)=some (.int .i64 (↑(0+1):Int))from inc_i (by omega))<|.cutQ k68_0 [(0,.sl .sh (l.map encP)),(3,.int .i64 (↑(0+1):Int))] (ζ1) (fun T hT=>(ih (0+1) hnx T hT).to (by grind[ckSl,ordB]))) (fun h2=>.yes (show(!isName x.val)=true from by have hh:¬(isName x.val=true):=h2;simp[hh])<|.fin ((.ret (.int .i64 3),ζ1)) (by simp only[IsRet];grind[ckSl,ordB]))) (fun h1=>.yes (show(!isName x.key)=true from by have hh:¬(isName x.key=true):=h1;simp[hh])<|.tt<|.fin ((.ret (.int .i64 3),ζ1)) (by simp only[IsRet];grind[ckSl,ordB])))
  |succ j=>
   obtain⟨p,hp⟩:∃p,l[j]?=some p:=⟨l[j],List.getElem?_eq_getElem (by omega)⟩
   exact let ζ1:Heap:={boxes:=[],toks:=[],loops:=[]:Heap};gG 60 _ hT (.len (lM .sh encP l)<|.yes (dT ((↑(j+1):Int)<(↑l.length:Int)))<|.idx (show idxA 2 (.sl .sh (l.map encP)) (.int .i64 (↑(j+1):Int))=some (.ref (encP x).cells)from idx_row hd (by rfl))<|.callI (show Gives cfg 66 [.str x.key] (.bool (isName x.key))from name_any _)<|.split (isName x.key=true) (fun h1=>.no (show(!isName x.key)=false from by have hh:isName x.key=true:=h1;simp[hh])<|.idx (show idxA 2 (.sl .sh (l.map encP)) (.int .i64 (↑(j+1):Int))=some (.ref (encP x).cells)from idx_row hd (by rfl))<|.callI (show Gives cfg 66 [.str x.val] (.bool (isName x.val))from name_any _)<|.split (isName x.val=true) (fun h2=>.no (show(!isName x.val)=false from by have hh:isName x.val=true:=h2;simp[hh])<|.yes (dT ((0:Int)<(↑(j+1):Int)))<|.idx (show idxA 2 (.sl .sh (l.map encP)) (.int .i64 (↑(j+1):Int))=some (.ref (encP x).cells)from idx_row hd (by rfl))<|.bin (show binA .sub (.int .i64 (↑(j+1):Int)) (.int .i64 1)=some (.int .i64 ↑j)from dec_i (by omega))<|.idx (show idxA 2 (.sl .sh (l.map encP)) (.int .i64 ↑j)=some (.ref (encP p).cells)from idx_get hp (by rfl))<|.split ((Op.bytesLess x.key p.key||x.key==p.key)=true) (fun h3=>.yes (show(Op.bytesLess x.key p.key||x.key==p.key)=true from h3)<|.fin ((.ret (.int .i64 13),ζ1)) (by simp only[IsRet];grind[ckSl,ordB])) (fun h3=>.no (show(Op.bytesLess x.key p.key||x.key==p.key)=false from Bool.eq_false_iff.2 h3)<|.bin (show binA .add (.int .i64 (↑(j+1):Int)) (.int .i64 1)=some (.int .i64 (↑(j+1+1):Int))from inc_i (by omega))<|.cutQ k68_0 [(0,.sl .sh (l.map encP)),(3,.int .i64 (↑(j+1+1):Int))] (ζ1) (fun T hT=>(ih (j+1+1) hnx T hT).to (by grind[ckSl,ordB])))) (fun h2=>.yes (show(!isName x.val)=true from by have hh:¬(isName x.val=true):=h2;simp[hh])<|.fin ((.ret (.int .i64 3),ζ1)) (by simp only[IsRet];grind[ckSl,ordB]))) (fun h1=>.yes (show(!isName x.key)=true from by have hh:¬(isName x.key=true):=h1;simp[hh])<|.tt<|.fin ((.ret (.int .i64 3),ζ1)) (by simp only[IsRet];grind[ckSl,ordB])))
theorem ckS_ref(l:List Pair):Gives cfg 68 [.sl .sh (l.map encP)] (.int .i64 (ckS l)):=by
 refine Gives.run (l68 _ _) ?_
 have h:=fun hn=>ckS_ref_loop l hn l 0 rfl
 exact let ζ1:Heap:={boxes:=[],toks:=[],loops:=[]:Heap};gG 60 [] trivial (.len (lM .sh encP l)<|.split ((8:Int)<(↑l.length:Int)) (fun h1=>.yes (dT ((8:Int)<(↑l.length:Int)) h1)<|.fin ((.ret (.int .i64 4),ζ1)) (by simp only[IsRet];grind[ckS])) (fun h1=>.no (dF ((8:Int)<(↑l.length:Int)) h1)<|.cutQ k68_0 [(0,.sl .sh (l.map encP)),(3,.int .i64 0)] (ζ1) (fun T hT=>(h (by omega) T hT).to (by grind[ckS]))))
theorem ckS_loop(l:List Pair)(hn:l.length≤8):∀(post:List Pair)(i:Nat)(bs:List (List AV))(hd:l.drop i=post)(T:Env)(hT:Has T [(0,.sl .sh (l.map encP)),(8,.sl .sh (l.map encP)),(9,.int .i64 l.length),(10,.int .i64 i)]),
 Goes cfg a140 k140_0 T ⟨bs,[],[]⟩ (IsRet (.int .i64 (ckSl l i post))):=by
 intro post
 induction post with
 |nil=>
  intro i bs hd T hT
  have hge:=drop_ge hd
  exact gG 60 _ hT (.no (dF ((↑i:Int)<(↑l.length:Int)))<|.fin ((.ret (.int .i64 0),{boxes:=bs,toks:=[],loops:=[]:Heap})) rfl)
 |cons x post ih=>
  intro i bs hd T hT
  have hlt:=drop_lt hd
  have hnx:=drop_next hd
  cases i with
  |zero=>exact let ζ1:Heap:={boxes:=bs++[[AV.str x.key,.str x.val]],toks:=[],loops:=[]:Heap};gG 60 _ hT (.yes (dT ((↑(0:Nat):Int)<(↑l.length:Int)))<|.idx (show idxA 2 (.sl .sh (l.map encP)) (.int .i64 (↑(0:Nat):Int))=some (.ref (encP x).cells)from idx_row hd (by rfl))<|.load (rfl:loadA true 2 {boxes:=bs,toks:=[],loops:=[]:Heap} (.ref [.str x.key,.str x.val])=some (.agg [.str x.key,.str x.val]))<|.store (show storeA 2 {boxes:=bs++[[AV.str [],.str []]],toks:=[],loops:=[]:Heap} (.ptr bs.length 0) (.agg [.str x.key,.str x.val])=some (ζ1)from store_box2 (cs:=[.str [],.str []]) (cs':=[.str x.key,.str x.val]) (by simp+zetaDelta) rfl (by simp+zetaDelta [List.set_append]))<|.load (lB false 1 ζ1 bs.length 0 (.str x.key) [.str x.key,.str x.val])<|.callI (show Gives cfg 196 [.str x.key] (.bool (isName x.key))from res_name _)<|.split (isName x.key=true) (fun h1=>.no (show(!isName x.key)=false from by have hh:isName x.key=true:=h1;simp[hh])<|.load (lB false 1 ζ1 bs.length 1 (.str x.val) [.str x.key,.str x.val])<|.callI (show Gives cfg 196 [.str x.val] (.bool (isName x.val))from res_name _)<|.split (isName x.val=true) (fun h2=>.no (show(!isName x.val)=false from by have hh:isName x.val=true:=h2;simp[hh])<|.ff<|.ff<|.bin (show binA .add (.int .i64 (↑(0:Nat):Int)) (.int .i64 1)=some (.int .i64 (↑(0+1):Int))from inc_i (by omega))<|.cutQ k140_0 [(0,.sl .sh (l.map encP)),(8,.sl .sh (l.map encP)),(9,.int .i64 (↑l.length)),(10,.int .i64 (↑(0+1):Int))] (ζ1) (fun T hT=>(ih (0+1) (bs++[[AV.str x.key,.str x.val]]) hnx T hT).to (by grind[ckSl,ordB]))) (fun h2=>.yes (show(!isName x.val)=true from by have hh:¬(isName x.val=true):=h2;simp[hh])<|.fin ((.ret (.int .i64 3),ζ1)) (by simp only[IsRet];grind[ckSl,ordB]))) (fun h1=>.yes (show(!isName x.key)=true from by have hh:¬(isName x.key=true):=h1;simp[hh])<|.tt<|.fin ((.ret (.int .i64 3),ζ1)) (by simp only[IsRet];grind[ckSl,ordB])))
  |succ j=>
   obtain⟨p,hp⟩:∃p,l[j]?=some p:=⟨l[j],List.getElem?_eq_getElem (by omega)⟩
   exact let ζ1:Heap:={boxes:=bs++[[AV.str x.key,.str x.val]],toks:=[],loops:=[]:Heap};gG 60 _ hT (.yes (dT ((↑(j+1):Int)<(↑l.length:Int)))<|.idx (show idxA 2 (.sl .sh (l.map encP)) (.int .i64 (↑(j+1):Int))=some (.ref (encP x).cells)from idx_row hd (by rfl))<|.load (rfl:loadA true 2 {boxes:=bs,toks:=[],loops:=[]:Heap} (.ref [.str x.key,.str x.val])=some (.agg [.str x.key,.str x.val]))<|.store (show storeA 2 {boxes:=bs++[[AV.str [],.str []]],toks:=[],loops:=[]:Heap} (.ptr bs.length 0) (.agg [.str x.key,.str x.val])=some (ζ1)from store_box2 (cs:=[.str [],.str []]) (cs':=[.str x.key,.str x.val]) (by simp+zetaDelta) rfl (by simp+zetaDelta [List.set_append]))<|.load (lB false 1 ζ1 bs.length 0 (.str x.key) [.str x.key,.str x.val])<|.callI (show Gives cfg 196 [.str x.key] (.bool (isName x.key))from res_name _)<|.split (isName x.key=true) (fun h1=>.no (show(!isName x.key)=false from by have hh:isName x.key=true:=h1;simp[hh])<|.load (lB false 1 ζ1 bs.length 1 (.str x.val) [.str x.key,.str x.val])<|.callI (show Gives cfg 196 [.str x.val] (.bool (isName x.val))from res_name _)<|.split (isName x.val=true) (fun h2=>.no (show(!isName x.val)=false from by have hh:isName x.val=true:=h2;simp[hh])<|.yes (dT ((0:Int)<(↑(j+1):Int)))<|.load (lB false 1 ζ1 bs.length 0 (.str x.key) [.str x.key,.str x.val])<|.bin (show binA .sub (.int .i64 (↑(j+1):Int)) (.int .i64 1)=some (.int .i64 ↑j)from dec_i (by omega))<|.idx (show idxA 2 (.sl .sh (l.map encP)) (.int .i64 ↑j)=some (.ref (encP p).cells)from idx_get hp (by rfl))<|.load (rfl:loadA false 1 ζ1 (.ref [.str p.key])=some (.str p.key))<|.split ((Op.bytesLess x.key p.key||x.key==p.key)=true) (fun h3=>.yes (show(Op.bytesLess x.key p.key||x.key==p.key)=true from h3)<|.fin ((.ret (.int .i64 13),ζ1)) (by simp only[IsRet];grind[ckSl,ordB])) (fun h3=>.no (show(Op.bytesLess x.key p.key||x.key==p.key)=false from Bool.eq_false_iff.2 h3)<|.bin (show binA .add (.int .i64 (↑(j+1):Int)) (.int .i64 1)=some (.int .i64 (↑(j+1+1):Int))from inc_i (by omega))<|.cutQ k140_0 [(0,.sl .sh (l.map encP)),(8,.sl .sh (l.map encP)),(9,.int .i64 (↑l.length)),(10,.int .i64 (↑(j+1+1):Int))] (ζ1) (fun T hT=>(ih (j+1+1) (bs++[[AV.str x.key,.str x.val]]) hnx T hT).to (by grind[ckSl,ordB])))) (fun h2=>.yes (show(!isName x.val)=true from by have hh:¬(isName x.val=true):=h2;simp[hh])<|.fin ((.ret (.int .i64 3),ζ1)) (by simp only[IsRet];grind[ckSl,ordB]))) (fun h1=>.yes (show(!isName x.key)=true from by have hh:¬(isName x.key=true):=h1;simp[hh])<|.tt<|.fin ((.ret (.int .i64 3),ζ1)) (by simp only[IsRet];grind[ckSl,ordB])))
theorem ckS_any(l:List Pair):Gives cfg 140 [.sl .sh (l.map encP)] (.int .i64 (ckS l)):=by
 refine Gives.run (l140 _ _) ?_
 have h:=fun hn=>ckS_loop l hn l 0 [] rfl
 exact let ζ1:Heap:={boxes:=[],toks:=[],loops:=[]:Heap};gG 60 [] trivial (.len (lM .sh encP l)<|.split ((8:Int)<(↑l.length:Int)) (fun h1=>.yes (dT ((8:Int)<(↑l.length:Int)) h1)<|.fin ((.ret (.int .i64 4),ζ1)) (by simp only[IsRet];grind[ckS])) (fun h1=>.no (dF ((8:Int)<(↑l.length:Int)) h1)<|.len (lM .sh encP l)<|.cutQ k140_0 [(0,.sl .sh (l.map encP)),(8,.sl .sh (l.map encP)),(9,.int .i64 (↑l.length)),(10,.int .i64 0)] (ζ1) (fun T hT=>(h (by omega) T hT).to (by grind[ckS]))))
def valOk(x:Term):Bool:=if x.op≤2 then isName x.val else decide (x.val=[])
def ckMl:List Term→Int
 |[]=>0
 |x::post=>if 1≤x.op∧x.op≤4 then(if isName x.key&&valOk x then ckMl post else 3)else 1
def ckM(l:List Term):Int:=if l.length≤8 then ckMl l else 4
theorem ckM_ref_loop(l:List Term)(hn:l.length≤8):∀(post:List Term)(i:Nat)(bs:List (List AV))(hd:l.drop i=post)(T:Env)(hT:Has T [(0,.sl .sh (l.map encM)),(3,.int .i64 i)]),
 Goes cfg a69 k69_0 T ⟨bs,[],[]⟩ (IsRet (.int .i64 (ckMl post))):=by
 intro post
 induction post with
 |nil=>
  intro i bs hd T hT
  have hge:=drop_ge hd
  exact gG 60 _ hT (.len (lM .sh encM l)<|.no (dF ((↑i:Int)<(↑l.length:Int)))<|.fin ((.ret (.int .i64 0),{boxes:=bs,toks:=[],loops:=[]:Heap})) rfl)
 |cons x post ih=>
  intro i bs hd T hT
  have hlt:=drop_lt hd
  have hnx:=drop_next hd
  exact let ζ2:List AV:=[.int .i64 x.op,.str x.key,.str x.val];let ζ1:Heap:={boxes:=bs++[ζ2],toks:=[],loops:=[]:Heap};gG 60 _ hT (.len (lM .sh encM l)<|.yes (dT ((↑i:Int)<(↑l.length:Int)))<|.idx (iR 3 encM hd)<|.load (rfl:loadA true 3 {boxes:=bs,toks:=[],loops:=[]:Heap} (.ref ζ2)=some (.agg ζ2))<|.store (show storeA 3 {boxes:=bs++[[AV.int .i64 0,.str [],.str []]],toks:=[],loops:=[]:Heap} (.ptr bs.length 0) (.agg ζ2)=some (ζ1)from store_box2 (cs:=[.int .i64 0,.str [],.str []]) (cs':=ζ2) (by simp+zetaDelta) rfl (by simp+zetaDelta [List.set_append]))<|.load (lB false 1 ζ1 bs.length 0 (.int .i64 x.op) ζ2)<|.split (x.op<(1:Int)) (fun h1=>.yes (dT (x.op<(1:Int)) h1)<|.tt<|.fin ((.ret (.int .i64 1),ζ1)) (by simp only[IsRet];grind[ckMl,valOk])) (fun h1=>.no (dF (x.op<(1:Int)) h1)<|.load (lB false 1 ζ1 bs.length 0 (.int .i64 x.op) ζ2)<|.split ((4:Int)<x.op) (fun h2=>.yes (dT ((4:Int)<x.op) h2)<|.fin ((.ret (.int .i64 1),ζ1)) (by simp only[IsRet];grind[ckMl,valOk])) (fun h2=>.no (dF ((4:Int)<x.op) h2)<|.load (lB false 1 ζ1 bs.length 1 (.str x.key) ζ2)<|.callI (show Gives cfg 66 [.str x.key] (.bool (isName x.key))from name_any _)<|.split (isName x.key=true) (fun h3=>.no (show(!isName x.key)=false from by have hh:isName x.key=true:=h3;simp[hh])<|.load (lB false 1 ζ1 bs.length 0 (.int .i64 x.op) ζ2)<|.split (x.op≤(2:Int)) (fun h4=>.yes (dT (x.op≤(2:Int)) h4)<|.load (lB false 1 ζ1 bs.length 2 (.str x.val) ζ2)<|.callI (show Gives cfg 66 [.str x.val] (.bool (isName x.val))from name_any _)<|.split (isName x.val=true) (fun h5=>.no (show(!isName x.val)=false from by have hh:isName x.val=true:=h5;simp[hh])<|.load (lB false 1 ζ1 bs.length 0 (.int .i64 x.op) ζ2)<|.no (dF ((3:Int)≤x.op))<|.ff<|.bin (iI i)<|.cutQ k69_0 [(0,.sl .sh (l.map encM)),(3,.int .i64 (↑(i+1)))] (ζ1) (fun T hT=>(ih (i+1) (bs++[ζ2]) hnx T hT).to (by grind[ckMl,valOk]))) (fun h5=>.yes (show(!isName x.val)=true from by have hh:¬(isName x.val=true):=h5;simp[hh])<|.tt<|.fin ((.ret (.int .i64 3),ζ1)) (by simp only[IsRet];grind[ckMl,valOk]))) (fun h4=>.no (dF (x.op≤(2:Int)) h4)<|.ff<|.load (lB false 1 ζ1 bs.length 0 (.int .i64 x.op) ζ2)<|.yes (dT ((3:Int)≤x.op))<|.load (lB false 1 ζ1 bs.length 2 (.str x.val) ζ2)<|.split ((x.val==[])=true) (fun h5=>.no (show(!x.val==[])=false from by have hh:(x.val==[])=true:=h5;simp[hh])<|.bin (iI i)<|.cutQ k69_0 [(0,.sl .sh (l.map encM)),(3,.int .i64 (↑(i+1)))] (ζ1) (fun T hT=>(ih (i+1) (bs++[ζ2]) hnx T hT).to (by grind[ckMl,valOk]))) (fun h5=>.yes (show(!x.val==[])=true from by have hh:¬((x.val==[])=true):=h5;simp[hh])<|.fin ((.ret (.int .i64 3),ζ1)) (by simp only[IsRet];grind[ckMl,valOk])))) (fun h3=>.yes (show(!isName x.key)=true from by have hh:¬(isName x.key=true):=h3;simp[hh])<|.tt<|.tt<|.fin ((.ret (.int .i64 3),ζ1)) (by simp only[IsRet];grind[ckMl,valOk])))))
theorem ckM_ref(l:List Term):Gives cfg 69 [.sl .sh (l.map encM)] (.int .i64 (ckM l)):=by
 refine Gives.run (l69 _ _) ?_
 have h:=fun hn=>ckM_ref_loop l hn l 0 [] rfl
 exact let ζ1:Heap:={boxes:=[],toks:=[],loops:=[]:Heap};gG 60 [] trivial (.len (lM .sh encM l)<|.split ((8:Int)<(↑l.length:Int)) (fun h1=>.yes (dT ((8:Int)<(↑l.length:Int)) h1)<|.fin ((.ret (.int .i64 4),ζ1)) (by simp only[IsRet];grind[ckM])) (fun h1=>.no (dF ((8:Int)<(↑l.length:Int)) h1)<|.cutQ k69_0 [(0,.sl .sh (l.map encM)),(3,.int .i64 0)] (ζ1) (fun T hT=>(h (by omega) T hT).to (by grind[ckM]))))
theorem ckM_loop(l:List Term)(hn:l.length≤8):∀(post:List Term)(i:Nat)(bs:List (List AV))(hd:l.drop i=post)(T:Env)(hT:Has T [(9,.sl .sh (l.map encM)),(10,.int .i64 l.length),(11,.int .i64 i)]),
 Goes cfg a141 k141_0 T ⟨bs,[],[]⟩ (IsRet (.int .i64 (ckMl post))):=by
 intro post
 induction post with
 |nil=>
  intro i bs hd T hT
  have hge:=drop_ge hd
  exact gG 60 _ hT (.no (dF ((↑i:Int)<(↑l.length:Int)))<|.fin ((.ret (.int .i64 0),{boxes:=bs,toks:=[],loops:=[]:Heap})) rfl)
 |cons x post ih=>
  intro i bs hd T hT
  have hlt:=drop_lt hd
  have hnx:=drop_next hd
  exact let ζ2:List AV:=[.int .i64 x.op,.str x.key,.str x.val];let ζ1:Heap:={boxes:=bs++[ζ2],toks:=[],loops:=[]:Heap};gG 60 _ hT (.yes (dT ((↑i:Int)<(↑l.length:Int)))<|.idx (iR 3 encM hd)<|.load (rfl:loadA true 3 {boxes:=bs,toks:=[],loops:=[]:Heap} (.ref ζ2)=some (.agg ζ2))<|.store (show storeA 3 {boxes:=bs++[[AV.int .i64 0,.str [],.str []]],toks:=[],loops:=[]:Heap} (.ptr bs.length 0) (.agg ζ2)=some (ζ1)from store_box2 (cs:=[.int .i64 0,.str [],.str []]) (cs':=ζ2) (by simp+zetaDelta) rfl (by simp+zetaDelta [List.set_append]))<|.load (lB false 1 ζ1 bs.length 2 (.str x.val) ζ2)<|.load (lB false 1 ζ1 bs.length 0 (.int .i64 x.op) ζ2)<|.split ((x.op==(1:Int))=true) (fun h1=>.yes (show(x.op==(1:Int))=true from h1)<|.yes (show(x.op==(1:Int))=true from(by omega))<|.load (lB false 1 ζ1 bs.length 2 (.str x.val) ζ2)<|.callI (show Gives cfg 196 [.str x.val] (.bool (isName x.val))from res_name _)<|.load (lB false 1 ζ1 bs.length 1 (.str x.key) ζ2)<|.callI (show Gives cfg 196 [.str x.key] (.bool (isName x.key))from res_name _)<|.split (isName x.key=true) (fun h2=>.no (show(!isName x.key)=false from by have hh:isName x.key=true:=h2;simp[hh])<|.split (isName x.val=true) (fun h3=>.no (show(!isName x.val)=false from by have hh:isName x.val=true:=h3;simp[hh])<|.bin (iI i)<|.cutQ k141_0 [(9,.sl .sh (l.map encM)),(10,.int .i64 (↑l.length)),(11,.int .i64 (↑(i+1)))] (ζ1) (fun T hT=>(ih (i+1) (bs++[ζ2]) hnx T hT).to (by grind[ckMl,valOk]))) (fun h3=>.yes (show(!isName x.val)=true from by have hh:¬(isName x.val=true):=h3;simp[hh])<|.fin ((.ret (.int .i64 3),ζ1)) (by simp only[IsRet];grind[ckMl,valOk]))) (fun h2=>.yes (show(!isName x.key)=true from by have hh:¬(isName x.key=true):=h2;simp[hh])<|.tt<|.fin ((.ret (.int .i64 3),ζ1)) (by simp only[IsRet];grind[ckMl,valOk]))) (fun h1=>.no (show(x.op==(1:Int))=false from Bool.eq_false_iff.2 h1)<|.split ((x.op==(2:Int))=true) (fun h2=>.yes (show(x.op==(2:Int))=true from h2)<|.load (lB false 1 ζ1 bs.length 2 (.str x.val) ζ2)<|.callI (show Gives cfg 196 [.str x.val] (.bool (isName x.val))from res_name _)<|.load (lB false 1 ζ1 bs.length 1 (.str x.key) ζ2)<|.callI (show Gives cfg 196 [.str x.key] (.bool (isName x.key))from res_name _)<|.split (isName x.key=true) (fun h3=>.no (show(!isName x.key)=false from by have hh:isName x.key=true:=h3;simp[hh])<|.split (isName x.val=true) (fun h4=>.no (show(!isName x.val)=false from by have hh:isName x.val=true:=h4;simp[hh])<|.bin (iI i)<|.cutQ k141_0 [(9,.sl .sh (l.map encM)),(10,.int .i64 (↑l.length)),(11,.int .i64 (↑(i+1)))] (ζ1) (fun T hT=>(ih (i+1) (bs++[ζ2]) hnx T hT).to (by grind[ckMl,valOk]))) (fun h4=>.yes (show(!isName x.val)=true from by have hh:¬(isName x.val=true):=h4;simp[hh])<|.fin ((.ret (.int .i64 3),ζ1)) (by simp only[IsRet];grind[ckMl,valOk]))) (fun h3=>.yes (show(!isName x.key)=true from by have hh:¬(isName x.key=true):=h3;simp[hh])<|.tt<|.fin ((.ret (.int .i64 3),ζ1)) (by simp only[IsRet];grind[ckMl,valOk]))) (fun h2=>.no (show(x.op==(2:Int))=false from Bool.eq_false_iff.2 h2)<|.split ((x.op==(3:Int))=true) (fun h3=>.yes (show(x.op==(3:Int))=true from h3)<|.yes (show(x.op==(3:Int))=true from(by omega))<|.load (lB false 1 ζ1 bs.length 1 (.str x.key) ζ2)<|.callI (show Gives cfg 196 [.str x.key] (.bool (isName x.key))from res_name _)<|.split (isName x.key=true) (fun h4=>.no (show(!isName x.key)=false from by have hh:isName x.key=true:=h4;simp[hh])<|.split ((x.val==[])=true) (fun h5=>.no (show(!x.val==[])=false from by have hh:(x.val==[])=true:=h5;simp[hh])<|.bin (iI i)<|.cutQ k141_0 [(9,.sl .sh (l.map encM)),(10,.int .i64 (↑l.length)),(11,.int .i64 (↑(i+1)))] (ζ1) (fun T hT=>(ih (i+1) (bs++[ζ2]) hnx T hT).to (by grind[ckMl,valOk]))) (fun h5=>.yes (show(!x.val==[])=true from by have hh:¬((x.val==[])=true):=h5;simp[hh])<|.fin ((.ret (.int .i64 3),ζ1)) (by simp only[IsRet];grind[ckMl,valOk]))) (fun h4=>.yes (show(!isName x.key)=true from by have hh:¬(isName x.key=true):=h4;simp[hh])<|.tt<|.fin ((.ret (.int .i64 3),ζ1)) (by simp only[IsRet];grind[ckMl,valOk]))) (fun h3=>.no (show(x.op==(3:Int))=false from Bool.eq_false_iff.2 h3)<|.split ((x.op==(4:Int))=true) (fun h4=>.yes (show(x.op==(4:Int))=true from h4)<|.load (lB false 1 ζ1 bs.length 1 (.str x.key) ζ2)<|.callI (show Gives cfg 196 [.str x.key] (.bool (isName x.key))from res_name _)<|.split (isName x.key=true) (fun h5=>.no (show(!isName x.key)=false from by have hh:isName x.key=true:=h5;simp[hh])<|.split ((x.val==[])=true) (fun h6=>.no (show(!x.val==[])=false from by have hh:(x.val==[])=true:=h6;simp[hh])<|.bin (iI i)<|.cutQ k141_0 [(9,.sl .sh (l.map encM)),(10,.int .i64 (↑l.length)),(11,.int .i64 (↑(i+1)))] (ζ1) (fun T hT=>(ih (i+1) (bs++[ζ2]) hnx T hT).to (by grind[ckMl,valOk]))) (fun h6=>.yes (show(!x.val==[])=true from by have hh:¬((x.val==[])=true):=h6;simp[hh])<|.fin ((.ret (.int .i64 3),ζ1)) (by simp only[IsRet];grind[ckMl,valOk]))) (fun h5=>.yes (show(!isName x.key)=true from by have hh:¬(isName x.key=true):=h5;simp[hh])<|.tt<|.fin ((.ret (.int .i64 3),ζ1)) (by simp only[IsRet];grind[ckMl,valOk]))) (fun h4=>.no (show(x.op==(4:Int))=false from Bool.eq_false_iff.2 h4)<|.fin ((.ret (.int .i64 1),ζ1)) (by simp only[IsRet];grind[ckMl,valOk]))))))
theorem ckM_any(l:List Term):Gives cfg 141 [.sl .sh (l.map encM)] (.int .i64 (ckM l)):=by
 refine Gives.run (l141 _ _) ?_
 have h:=fun hn=>ckM_loop l hn l 0 [] rfl
 exact let ζ1:Heap:={boxes:=[],toks:=[],loops:=[]:Heap};gG 60 [] trivial (.len (lM .sh encM l)<|.split ((8:Int)<(↑l.length:Int)) (fun h1=>.yes (dT ((8:Int)<(↑l.length:Int)) h1)<|.fin ((.ret (.int .i64 4),ζ1)) (by simp only[IsRet];grind[ckM])) (fun h1=>.no (dF ((8:Int)<(↑l.length:Int)) h1)<|.len (lM .sh encM l)<|.cutQ k141_0 [(9,.sl .sh (l.map encM)),(10,.int .i64 (↑l.length)),(11,.int .i64 0)] (ζ1) (fun T hT=>(h (by omega) T hT).to (by grind[ckM]))))
end Go.Aa.T
set_option linter.unusedVariables false
set_option linter.unusedSimpArgs false
set_option maxRecDepth 100000
namespace Go.Aa.T
open Go.Aa Go.Proofs
def getP(s:List Pair)(k:List UInt8):Option (List UInt8):=(s.find? (fun p=>p.key==k)).map (·.val)
def getV(o:Option (List UInt8)):AV:=.tuple [.str (o.getD []),.bool o.isSome]
theorem get_loop(s:List Pair)(k:List UInt8)(hn:s.length<9223372036854775807):∀(post:List Pair)(i:Nat)(bs:List (List AV))(hd:s.drop i=post)(T:Env)
 (hT:Has T [(1,.str k),(8,.sl .sh (s.map encP)),(9,.int .i64 s.length),(10,.int .i64 i)]),
 Goes cfg a200 k200_0 T ⟨bs,[],[]⟩ (IsRet (getV (getP post k))):=by
 intro post
 induction post with
 |nil=>
  intro i bs hd T hT
  have hge:=drop_ge hd
  exact gG 60 _ hT (.no (dF ((↑i:Int)<(↑s.length:Int)))<|.fin ((.ret (.tuple [.str [],.bool false]),{boxes:=bs,toks:=[],loops:=[]:Heap})) rfl)
 |cons x post ih=>
  intro i bs hd T hT
  have hlt:=drop_lt hd
  have hnx:=drop_next hd
  exact let ζ1:Heap:={boxes:=bs++[[AV.str x.key,.str x.val]],toks:=[],loops:=[]:Heap};gG 60 _ hT (.yes (dT ((↑i:Int)<(↑s.length:Int)))<|.idx (iR 2 encP hd)<|.load (rfl:loadA true 2 {boxes:=bs,toks:=[],loops:=[]:Heap} (.ref [.str x.key,.str x.val])=some (.agg [.str x.key,.str x.val]))<|.store (show storeA 2 {boxes:=bs++[[AV.str [],.str []]],toks:=[],loops:=[]:Heap} (.ptr bs.length 0) (.agg [.str x.key,.str x.val])=some (ζ1)from store_box2 (cs:=[.str [],.str []]) (cs':=[.str x.key,.str x.val]) (by simp+zetaDelta) rfl (by simp+zetaDelta [List.set_append]))<|.load (lB false 1 ζ1 bs.length 0 (.str x.key) [.str x.key,.str x.val])<|.split ((x.key==k)=true) (fun h1=>.yes (show(x.key==k)=true from h1)<|.load (lB false 1 ζ1 bs.length 1 (.str x.val) [.str x.key,.str x.val])<|.fin ((.ret (.tuple [.str x.val,.bool true]),ζ1)) (by simp only[IsRet];grind[getP,getV])) (fun h1=>.no (show(x.key==k)=false from Bool.eq_false_iff.2 h1)<|.bin (iI i)<|.cutQ k200_0 [(1,.str k),(8,.sl .sh (s.map encP)),(9,.int .i64 (↑s.length)),(10,.int .i64 (↑(i+1)))] (ζ1) (fun T hT=>(ih (i+1) (bs++[[AV.str x.key,.str x.val]]) hnx T hT).to (by grind[getP,getV]))))
theorem get_any(s:List Pair)(k:List UInt8)(hn:s.length<9223372036854775807):Gives cfg 200 [.sl .sh (s.map encP),.str k] (getV (getP s k)):=by
 refine Gives.run (l200 _ _) ?_
 have h:=get_loop s k hn s 0 [] rfl
 exact gG 60 [] trivial (.len (lM .sh encP s)<|.cutQ k200_0 [(1,.str k),(8,.sl .sh (s.map encP)),(9,.int .i64 (↑s.length)),(10,.int .i64 0)] ({boxes:=[],toks:=[],loops:=[]:Heap}) (fun T hT=>(h T hT)))
def holdsB(s:List Pair)(x:Term):Bool:=
 if x.op=1 then getP s x.key==some x.val else if x.op=2 then getP s x.key !=some x.val else if x.op=3 then(getP s x.key).isSome else if x.op=4 then(getP s x.key).isNone else false
theorem holds_any(s:List Pair)(x:Term)(hn:s.length<9223372036854775807):Gives cfg 152 [encM x,.sl .sh (s.map encP)] (.bool (holdsB s x)):=by
 refine Gives.run (l152 _ _) ?_
 exact let ζ1:Heap:={boxes:=[[.int .i64 x.op,.str x.key,.str x.val]],toks:=[],loops:=[]:Heap};let ζ2:List AV:=[.sl .sh (s.map encP),.str x.key];gG 60 [] trivial (.callK (ζ2) (.tuple [.str ((getP s x.key).getD []),.bool (getP s x.key).isSome]) (show Gives cfg 200 ζ2 (getV (getP s x.key))from get_any _ _ hn)<|.split ((x.op==(1:Int))=true) (fun h1=>.yes (show(x.op==(1:Int))=true from h1)<|.split ((getP s x.key).isSome=true) (fun h2=>.yes (show((getP s x.key).isSome)=true from h2)<|.fin ((.ret (.bool ((getP s x.key).getD []==x.val)),ζ1)) (by cases hg:getP s x.key<;>simp_all[IsRet,holdsB,bne])) (fun h2=>.no (show((getP s x.key).isSome)=false from Bool.eq_false_iff.2 h2)<|.fin ((.ret (.bool false),ζ1)) (by cases hg:getP s x.key<;>simp_all[IsRet,holdsB,bne]))) (fun h1=>.no (show(x.op==(1:Int))=false from Bool.eq_false_iff.2 h1)<|.split ((x.op==(2:Int))=true) (fun h2=>.yes (show(x.op==(2:Int))=true from h2)<|.split ((getP s x.key).isSome=true) (fun h3=>.no (show(!(getP s x.key).isSome)=false from by have hh:(getP s x.key).isSome=true:=h3;simp[hh])<|.fin ((.ret (.bool !(getP s x.key).getD []==x.val),ζ1)) (by cases hg:getP s x.key<;>simp_all[IsRet,holdsB,bne])) (fun h3=>.yes (show(!(getP s x.key).isSome)=true from by have hh:¬((getP s x.key).isSome=true):=h3;simp[hh])<|.fin ((.ret (.bool true),ζ1)) (by cases hg:getP s x.key<;>simp_all[IsRet,holdsB,bne]))) (fun h2=>.no (show(x.op==(2:Int))=false from Bool.eq_false_iff.2 h2)<|.split ((x.op==(3:Int))=true) (fun h3=>.yes (show(x.op==(3:Int))=true from h3)<|.fin ((.ret (.bool (getP s x.key).isSome),ζ1)) (by simp only[IsRet];grind[holdsB])) (fun h3=>.no (show(x.op==(3:Int))=false from Bool.eq_false_iff.2 h3)<|.split ((x.op==(4:Int))=true) (fun h4=>.yes (show(x.op==(4:Int))=true from h4)<|.fin ((.ret (.bool !(getP s x.key).isSome),ζ1)) (by simp only[IsRet];grind[holdsB])) (fun h4=>.no (show(x.op==(4:Int))=false from Bool.eq_false_iff.2 h4)<|.fin ((.ret (.bool false),ζ1)) (by simp only[IsRet];grind[holdsB]))))))
def HS(s:List Pair):Heap:=⟨[[.sl .sh (s.map encP)]],[],[]⟩
theorem match_one(s:List Pair)(x:Term)(hn:s.length<9223372036854775807):lim cfg (.fn 151) [encM x,.ptr 0 0] (HS s)=some (.ret (.bool (!holdsB s x)),⟨[[.sl .sh (s.map encP)],x.cells],[],[]⟩):=by
 rw[l151]
 exact go 60 [] trivial (.callG ([AV.agg [AV.int .i64 x.op,AV.str x.key,AV.str x.val],AV.sl .sh (List.map encP s)]) (AV.bool (holdsB s x)) (show Gives cfg (152:FuncId) [encM x,AV.sl .sh (List.map encP s)] (AV.bool (holdsB s x))from holds_any _ _ hn) ⟨rfl,rfl⟩ ⟨rfl,rfl⟩<|.fin ((ARes.ret (AV.bool !holdsB s x),{boxes:=[[AV.sl .sh (List.map encP s)],[AV.int .i64 x.op,AV.str x.key,AV.str x.val]],toks:=[],loops:=[]:Heap})) rfl) (by kernel_rfl)
def fidxB{α:Type}(p:α→Bool):List α→Nat→Int
 |[],_=> -1
 |x::l,i=>if p x then i else fidxB p l (i+1)
theorem fidxB_ge{α:Type}(p:α→Bool):∀(l:List α)(i:Nat),decide (0≤fidxB p l i)=l.any p
 |[],i=>rfl
 |x::l,i=>by
  unfold fidxB
  by_cases h:p x=true
  ·simp[h]
  ·have:=fidxB_ge p l (i+1);simp[h,this]
theorem match_loop (s : List Pair) (l : List Term) (hs : s.length < 9223372036854775807) (hn : l.length < 9223372036854775807) : ∀ (post : List Term) (i : Nat) (hd : l.drop i = post) (T : Env)
 (hT : Has T [(0, .sl .sh (l.map encM)), (1, .func 151 [.ptr 0 0]), (7, .int .i64 l.length), (8, .int .i64 i)]),
 runL cfg a199 k199_0 T (HS s) = some (.ret (.int .i64 (fidxB (fun x => !holdsB s x) post i)), HS s) := by
 intro post
 induction post with
 | nil =>
   intro i hd T hT
   have hge := drop_ge hd
   exact go 60 _ hT (.no (show (decide ((↑i : Int) < (↑l.length : Int))) = false from decide_eq_false (show ¬ ((↑i : Int) < (↑l.length : Int)) from (by omega))) <| .fin ((ARes.ret (AV.int .i64 (-1 : Int)), { boxes := [[AV.sl .sh (List.map encP s)]], toks := [], loops := [] : Heap })) rfl) (by kernel_rfl)
 | cons x post ih =>
   intro i hd T hT
   have hlt := drop_lt hd
   have hnx := drop_next hd
   exact go 60 _ hT (.yes (show (decide ((↑i : Int) < (↑l.length : Int))) = true from decide_eq_true (show (↑i : Int) < (↑l.length : Int) from (by omega))) <| .idx (show idxA 3 (AV.sl .sh (List.map encM l)) (AV.int .i64 (↑i : Int)) = some (AV.ref (encM x).cells) from idx_row hd (by rfl)) <| .callH (xs := [AV.agg [AV.int .i64 x.op, AV.str x.key, AV.str x.val]]) (caps := [AV.ptr 0 0]) (show lim cfg (Key.fn (151 : FuncId)) [encM x, AV.ptr 0 0] (HS s) = some (ARes.ret (AV.bool !holdsB s x), { boxes := [[AV.sl .sh (List.map encP s)], x.cells], toks := [], loops := [] : Heap }) from match_one _ _ hs) rfl rfl <| .split (holdsB s x = true) (fun h1 => .no (show (!holdsB s x) = false from by have hh : holdsB s x = true := h1; simp [hh]) <| .bin (show binA .add (AV.int .i64 (↑i : Int)) (AV.int .i64 1) = some (AV.int .i64 (↑(i + (1 : Nat)) : Int)) from inc_i (by omega)) <| .cut k199_0 [(0, AV.sl .sh (List.map encM l)), (1, AV.func (151 : Nat) [AV.ptr 0 0]), (7, AV.int .i64 (↑l.length : Int)), (8, AV.int .i64 (↑(i + (1 : Nat)) : Int))] ({ boxes := [[AV.sl .sh (List.map encP s)]], toks := [], loops := [] : Heap }) (fun T hT => (ih (i + (1 : Nat)) hnx T hT).trans (congrArg some (by simp [fidxB, *, HS])))) (fun h1 => .yes (show (!holdsB s x) = true from by have hh : ¬ (holdsB s x = true) := h1; simp [hh]) <| .fin ((ARes.ret (AV.int .i64 (↑i : Int)), { boxes := [[AV.sl .sh (List.map encP s)]], toks := [], loops := [] : Heap })) (by simp [fidxB, *, HS]))) (by kernel_rfl)
theorem match_index(s:List Pair)(l:List Term)(hs:s.length<9223372036854775807)(hn:l.length<9223372036854775807):lim cfg (.fn 199) [.sl .sh (l.map encM),.func 151 [.ptr 0 0]] (HS s)=some (.ret (.int .i64 (fidxB (fun x=> !holdsB s x) l 0)),HS s):=by
 rw[l199]
 have h:=match_loop s l hs hn l 0 rfl
 exact go 60 [] trivial (.len (show lenA false (AV.sl .sh (List.map encM l))=some (AV.int .i64 (↑l.length:Int))from len_map _)<|.cut k199_0 [(0,AV.sl .sh (List.map encM l)),(1,AV.func (151:Nat) [AV.ptr 0 0]),(7,AV.int .i64 (↑l.length:Int)),(8,AV.int .i64 0)] ({boxes:=[[AV.sl .sh (List.map encP s)]],toks:=[],loops:=[]:Heap}) (fun T hT=>(h T hT))) (by kernel_rfl)
theorem match_has(s:List Pair)(l:List Term)(hs:s.length<9223372036854775807)(hn:l.length<9223372036854775807):lim cfg (.fn 150) [.sl .sh (l.map encM),.func 151 [.ptr 0 0]] (HS s)=some (.ret (.bool (l.any (fun x=> !holdsB s x))),HS s):=by
 rw[l150]
 have hf:=fidxB_ge (fun x=> !holdsB s x) l 0
 exact go 60 [] trivial (.callH (xs:=[AV.sl .sh (List.map encM l),AV.func (151:Nat) [AV.ptr 0 0]]) (caps:=[]) (show lim cfg (Key.fn (199:FuncId)) [AV.sl .sh (List.map encM l),AV.func (151:FuncId) [AV.ptr 0 0]] (HS s)=some (ARes.ret (AV.int .i64 (fidxB (fun x↦ !holdsB s x) l (0:Nat))),HS s)from match_index _ _ hs hn) rfl rfl<|.fin ((ARes.ret (AV.bool (decide ((0:Int)≤fidxB (fun x↦ !holdsB s x) l (0:Nat)))),{boxes:=[[AV.sl .sh (List.map encP s)]],toks:=[],loops:=[]:Heap})) (by simp[HS,←hf])) (by kernel_rfl)
def matchB(s:List Pair)(l:List Term):Bool:=l.all (holdsB s)
theorem match_any(s:List Pair)(l:List Term)(hs:s.length<9223372036854775807)(hn:l.length<9223372036854775807):Gives cfg 81 [.sl .sh (l.map encM),.sl .sh (s.map encP)] (.bool (matchB s l)):=by
 refine Gives.run (l81 _ _) ?_
 have e:(!l.any (fun x=> !holdsB s x))=matchB s l:=by simp[matchB,List.any_eq_not_all_not]
 exact gG 60 [] trivial (.callH (xs:=[.sl .sh (l.map encM),.func 151 [.ptr 0 0]]) (caps:=[]) (show lim cfg (Key.fn 150) [.sl .sh (l.map encM),.func 151 [.ptr 0 0]] (HS s)=some (ARes.ret (.bool (l.any fun x↦ !holdsB s x)),HS s)from match_has _ _ hs hn) rfl rfl<|.fin ((.ret (.bool !l.any fun x↦ !holdsB s x),{boxes:=[[.sl .sh (s.map encP)]],toks:=[],loops:=[]:Heap})) (by simp only[IsRet,e]))
end Go.Aa.T
set_option linter.unusedVariables false
set_option linter.unusedSimpArgs false
set_option maxRecDepth 100000
namespace Go.Aa.T
open Go.Aa Go.Proofs
theorem cellT(x:Taint):cellsN 3 (encT x)=true:=rfl
theorem fewT_len{l:List Taint}(h:fewT l=true):l.length≤20:=by
 simp only[fewT,Bool.and_eq_true,decide_eq_true_eq]at h;exact h.1
theorem fewL_len{l:List Tol}(h:fewL l=true):l.length≤20:=by
 simp only[fewL,Bool.and_eq_true,decide_eq_true_eq]at h;exact h.1
theorem in0_data{nb nt:Nat}:∀{x:AV},data0 x=true→in0 nb nt x=true
 |.undef,h=>by cases h
 |.bool _,_=>rfl
 |.int ..,_=>rfl
 |.flt _,_=>rfl
 |.nan,_=>rfl
 |.str _,_=>rfl
 |.sl .sh _,_=>rfl
 |.sl .full _,_=>rfl
 |.sl .nil _,h=>by cases h
 |.sl (.own _) _,h=>by cases h
 |.agg _,h=>by cases h
 |.tuple _,h=>by cases h
 |.ptr ..,h=>by cases h
 |.ref _,_=>rfl
 |.nilptr,_=>rfl
 |.func ..,h=>by cases h
 |.nilFunc,_=>rfl
 |.iface ..,h=>by cases h
 |.nilIface,_=>rfl
 |.msl ..,h=>by cases h
 |.yield _,h=>by cases h
theorem in2_data0{nb nt:Nat}{x:AV}(h:data0 x=true):in2 nb nt x=true:=by
 have:=in0_data (nb:=nb) (nt:=nt) h
 cases x<;>first|exact this|cases h
theorem trunc_plain{bs ex:List (List AV)}{ts:List Nat}{b:Bool}(hb:bs.all (·.all data0)=true):trunc bs.length ts.length (.bool b) ⟨bs++ex,ts,[]⟩=⟨bs,ts,[]⟩:=by
 have hin:∀nb nt,bs.all (·.all (in2 nb nt))=true:=fun nb nt=>by
  rw[List.all_eq_true]at hb⊢
  intro l hl
  have:=hb l hl
  rw[List.all_eq_true]at this⊢
  exact fun x hx=>in2_data0 (this x hx)
 unfold trunc
 simp only[List.take_left',hin,List.all_nil,Bool.true_and,Bool.and_true]
 simp[within,in2,in1,in0]
section
variable{H:Heap}{k:Nat}{p:Taint→Bool}
theorem idxT_loop(hd:∀y:Taint,Does cfg (.call (.c (.func 220 [.ptr k 0])) [.c (encT y)]) H (.bool (p y)) H)(l:List Taint)(hn:l.length<9223372036854775807):∀(post:List Taint)(i:Nat)(hdr:l.drop i=post)(T:Env)
 (hT:Has T [(0,.sl .sh (l.map encT)),(1,.func 220 [.ptr k 0]),(7,.int .i64 l.length),(8,.int .i64 i)]),
 Goes cfg a240 k240_0 T H (fun r=>r=(.ret (.int .i64 (fidxB p post i)),H)):=by
 intro post
 induction post with
 |nil=>
  intro i hdr T hT
  have hge:=drop_ge hdr
  exact gG 60 _ hT (.no (dF ((↑i:Int)<(↑l.length:Int)))<|.fin ((.ret (.int .i64 (-1:Int)),H)) rfl)
 |cons x post ih=>
  intro i hdr T hT
  have hlt:=drop_lt hdr
  have hnx:=drop_next hdr
  have hdx:=hd x
  cases hp:p x with
  |true=>
   rw[hp]at hdx
   have e:fidxB p (x::post) i=i:=by simp[fidxB,hp]
   rw[e]
   exact let ζ1:List AV:=[.str x.key,.str x.val,.bool x.hard];gG 60 _ hT (.yes (dT ((↑i:Int)<(↑l.length:Int)))<|.idx (iR 3 encT hdr)<|.load (rfl:loadA true 3 H (.ref ζ1)=some (.agg ζ1))<|.effY hdx<|.tt<|.fin ((.ret (.int .i64 ↑i),H)) rfl)
  |false=>
   rw[hp]at hdx
   have e:fidxB p (x::post) i=fidxB p post (i+1):=by simp[fidxB,hp]
   rw[e]
   exact let ζ1:List AV:=[.str x.key,.str x.val,.bool x.hard];gG 60 _ hT (.yes (dT ((↑i:Int)<(↑l.length:Int)))<|.idx (iR 3 encT hdr)<|.load (rfl:loadA true 3 H (.ref ζ1)=some (.agg ζ1))<|.effY hdx<|.ff<|.bin (iI i)<|.cutQ k240_0 [(0,.sl .sh (l.map encT)),(1,.func 220 [.ptr k 0]),(7,.int .i64 (↑l.length)),(8,.int .i64 (↑(i+1)))] (H) (fun T hT=>(ih (i+1) hnx T hT)))
theorem idxT(hd:∀y:Taint,Does cfg (.call (.c (.func 220 [.ptr k 0])) [.c (encT y)]) H (.bool (p y)) H)(l:List Taint)(hn:l.length<9223372036854775807):
 lim cfg (.fn 240) [.sl .sh (l.map encT),.func 220 [.ptr k 0]] H=some (.ret (.int .i64 (fidxB p l 0)),H):=by
 rw[l240]
 have h:=idxT_loop hd l hn l 0 rfl
 have key:Goes cfg a240 [.c c240] (initEnv [.sl .sh (l.map encT),.func 220 [.ptr k 0]]) H (fun r=>r=(.ret (.int .i64 (fidxB p l 0)),H)):=by
  exact gG 60 [] trivial (.len (lM .sh encT l)<|.cutQ k240_0 [(0,.sl .sh (l.map encT)),(1,.func 220 [.ptr k 0]),(7,.int .i64 (↑l.length)),(8,.int .i64 0)] (H) (fun T hT=>(h T hT)))
 obtain⟨r,h,rfl⟩:=key
 exact h
theorem hasT(hd:∀y:Taint,Does cfg (.call (.c (.func 220 [.ptr k 0])) [.c (encT y)]) H (.bool (p y)) H)(l:List Taint)(hn:l.length<9223372036854775807)(htr:trunc H.boxes.length H.toks.length (.int .i64 (fidxB p l 0)) H=H):
 lim cfg (.fn 219) [.sl .sh (l.map encT),.func 220 [.ptr k 0]] H=some (.ret (.bool (l.any p)),H):=by
 rw[l219]
 have h0:=does_callE (xs:=[.sl .sh (l.map encT),.func 220 [.ptr k 0]]) (caps:=[]) (idxT hd l hn) rfl rfl
 rw[show shutA (.int .i64 (fidxB p l 0))=.int .i64 (fidxB p l 0)from rfl,htr]at h0
 have hf:=fidxB_ge p l 0
 have key:Goes cfg a219 [.c c219] (initEnv [.sl .sh (l.map encT),.func 220 [.ptr k 0]]) H (fun r=>r=(.ret (.bool (l.any p)),H)):=by
  exact gG 60 [] trivial (.effY h0<|.fin ((.ret (.bool (decide ((0:Int)≤fidxB p l 0))),H)) (by simp[←hf]))
 obtain⟨r,h,rfl⟩:=key
 exact h
end
theorem one64(x y:Taint)(bs:List (List AV))(hb:bs.all (·.all data0)=true):Does cfg (.call (.c (.func 220 [.ptr bs.length 0])) [.c (encT y)]) ⟨bs++[x.cells],[],[]⟩ (.bool (same x y)) ⟨bs++[x.cells],[],[]⟩:=by
 have key:Goes cfg a220 [.c c220] (initEnv [encT y,.ptr bs.length 0]) ⟨bs++[x.cells],[],[]⟩ (fun r=>r=(.ret (.bool (same x y)),⟨(bs++[x.cells])++[y.cells],[],[]⟩)):=by
  exact let ζ2:List AV:=[.str x.key,.str x.val,.bool x.hard];let ζ3:List AV:=[.str y.key,.str y.val,.bool y.hard];let ζ1:Heap:={boxes:=bs++[ζ2]++[ζ3],toks:=[],loops:=[]:Heap};gG 60 [] trivial (.load (show loadA false 1 ζ1 (.ptr (bs++[ζ2]).length 0)=some (.str y.key)from load_box (cs:=ζ3) (by simp+zetaDelta) rfl)<|.load (lB false 1 ζ1 bs.length 0 (.str x.key) ζ2)<|.split ((y.key==x.key)=true) (fun h1=>.yes (show(y.key==x.key)=true from h1)<|.load (show loadA false 1 ζ1 (.ptr (bs++[ζ2]).length 1)=some (.str y.val)from load_box (cs:=ζ3) (by simp+zetaDelta) rfl)<|.load (lB false 1 ζ1 bs.length 1 (.str x.val) ζ2)<|.fin ((.ret (.bool (y.val==x.val)),ζ1)) (by grind[same,Taint.cells])) (fun h1=>.no (show(y.key==x.key)=false from Bool.eq_false_iff.2 h1)<|.fin ((.ret (.bool false),ζ1)) (by simp_all+zetaDelta [same,Taint.cells])))
 obtain⟨r,h,rfl⟩:=key
 have h2:lim cfg (.fn 220) ([encT y]++[.ptr bs.length 0]) ⟨bs++[x.cells],[],[]⟩=some (.ret (.bool (same x y)),⟨(bs++[x.cells])++[y.cells],[],[]⟩):=by
  rw[l220];exact h
 have hd:=does_callE h2 rfl rfl
 rwa [show shutA (.bool (same x y))=.bool (same x y)from rfl,trunc_plain (bs:=bs++[x.cells]) (ex:=[y.cells]) (ts:=[]) (by simp only[List.all_append,hb];rfl)]at hd
theorem trunc_plainI{bs:List (List AV)}{ts:List Nat}{n:Int}(hb:bs.all (·.all data0)=true):trunc bs.length ts.length (.int .i64 n) ⟨bs,ts,[]⟩=⟨bs,ts,[]⟩:=by
 have h:=trunc_plain (ex:=[]) (ts:=ts) (b:=true) hb
 rw[List.append_nil]at h
 exact h
theorem has63(x:Taint)(l:List Taint)(hn:l.length<9223372036854775807)(bs:List (List AV))(hb:bs.all (·.all data0)=true):
 Does cfg (.call (.c (.func 219 [])) [.c (.sl .sh (l.map encT)),.c (.func 220 [.ptr bs.length 0])]) ⟨bs++[x.cells],[],[]⟩ (.bool (l.any (same x))) ⟨bs++[x.cells],[],[]⟩:=by
 have hb2:(bs++[x.cells]).all (·.all data0)=true:=by simp only[List.all_append,hb];rfl
 have h:=hasT (H:=⟨bs++[x.cells],[],[]⟩) (k:=bs.length) (p:=same x) (fun y=>one64 x y bs hb) l hn (trunc_plainI hb2)
 have hd:=does_callE (xs:=[.sl .sh (l.map encT),.func 220 [.ptr bs.length 0]]) (caps:=[]) h rfl rfl
 have e:=trunc_plain (bs:=bs++[x.cells]) (ex:=[]) (ts:=[]) (b:=l.any (same x)) hb2
 rw[List.append_nil]at e
 rwa [show shutA (.bool (l.any (same x)))=.bool (l.any (same x))from rfl,e]at hd
theorem ckT2_loop(l:List Taint)(hn:l.length≤8):∀(post:List Taint)(i:Nat)(bs:List (List AV))(hb:bs.all (·.all data0)=true)(hd:l.drop i=post)(T:Env)(hT:Has T [(0,.sl .sh (l.map encT)),(8,.sl .sh (l.map encT)),(9,.int .i64 l.length),(10,.int .i64 i)]),
 Goes cfg a212 k212_0 T ⟨bs,[],[]⟩ (IsRet (.int .i64 (ckTl l i post))):=by
 intro post
 induction post with
 |nil=>
  intro i bs hb hd T hT
  have hge:=drop_ge hd
  exact gG 60 _ hT (.no (dF ((↑i:Int)<(↑l.length:Int)))<|.fin ((.ret (.int .i64 0),{boxes:=bs,toks:=[],loops:=[]:Heap})) rfl)
 |cons x post ih=>
  intro i bs hb hd T hT
  have hlt:=drop_lt hd
  have hnx:=drop_next hd
  have hc:=has63 x (l.take i) (by simp;omega) bs hb
  have hb2:(bs++[x.cells]).all (·.all data0)=true:=by simp only[List.all_append,hb];rfl
  have ih2:=ih (i+1) (bs++[[.str x.key,.str x.val,.bool x.hard]]) hb2 hnx
  exact let ζ2:List AV:=[.str x.key,.str x.val,.bool x.hard];let ζ1:Heap:={boxes:=bs++[ζ2],toks:=[],loops:=[]:Heap};let ζ3:Heap:={boxes:=bs++[x.cells],toks:=[],loops:=[]:Heap};gG 90 _ hT (.yes (dT ((↑i:Int)<(↑l.length:Int)))<|.idx (iR 3 encT hd)<|.load (rfl:loadA true 3 {boxes:=bs,toks:=[],loops:=[]:Heap} (.ref ζ2)=some (.agg ζ2))<|.store (show storeA 3 {boxes:=bs++[[AV.str [],.str [],.bool false]],toks:=[],loops:=[]:Heap} (.ptr bs.length 0) (.agg ζ2)=some (ζ1)from store_box2 (cs:=[.str [],.str [],.bool false]) (cs':=ζ2) (by simp+zetaDelta) rfl (by simp+zetaDelta [List.set_append]))<|.load (lB false 1 ζ1 bs.length 0 (.str x.key) ζ2)<|.callI (show Gives cfg 196 [.str x.key] (.bool (isName x.key))from res_name _)<|.split (isName x.key=true) (fun h1=>.no (show(!isName x.key)=false from by have hh:isName x.key=true:=h1;simp[hh])<|.load (lB false 1 ζ1 bs.length 1 (.str x.val) ζ2)<|.callI (show Gives cfg 196 [.str x.val] (.bool (isName x.val))from res_name _)<|.split (isName x.val=true) (fun h2=>.no (show(!isName x.val)=false from by have hh:isName x.val=true:=h2;simp[hh])<|.slice (show sliceA 3 (.sl .sh (l.map encT)) none (some (.int .i64 ↑i)) none=some (.sl .sh (List.map encT (List.take i l)))from slice_to (by omega) (by rfl) (by exact cellT))<|.effY hc<|.split ((List.take i l).any (same x)=true) (fun h3=>.yes (show((List.take i l).any (same x))=true from h3)<|.fin ((.ret (.int .i64 6),ζ1)) (by simp only[IsRet];grind[ckTl])) (fun h3=>.no (show((List.take i l).any (same x))=false from Bool.eq_false_iff.2 h3)<|.bin (iI i)<|.cutQ k212_0 [(0,.sl .sh (l.map encT)),(8,.sl .sh (l.map encT)),(9,.int .i64 (↑l.length)),(10,.int .i64 (↑(i+1)))] (ζ1) (fun T hT=>(ih2 T hT).to (by grind[ckTl])))) (fun h2=>.yes (show(!isName x.val)=true from by have hh:¬(isName x.val=true):=h2;simp[hh])<|.fin ((.ret (.int .i64 3),ζ1)) (by simp only[IsRet];grind[ckTl]))) (fun h1=>.yes (show(!isName x.key)=true from by have hh:¬(isName x.key=true):=h1;simp[hh])<|.tt<|.fin ((.ret (.int .i64 3),ζ1)) (by simp only[IsRet];grind[ckTl])))
theorem ckT2(l:List Taint):Gives cfg 212 [.sl .sh (l.map encT)] (.int .i64 (ckT l)):=by
 refine Gives.run (l212 _ _) ?_
 have h:=fun hn=>ckT2_loop l hn l 0 [] rfl rfl
 exact let ζ1:Heap:={boxes:=[],toks:=[],loops:=[]:Heap};gG 60 [] trivial (.len (lM .sh encT l)<|.split ((8:Int)<(↑l.length:Int)) (fun h1=>.yes (dT ((8:Int)<(↑l.length:Int)) h1)<|.fin ((.ret (.int .i64 4),ζ1)) (by simp only[IsRet];grind[ckT])) (fun h1=>.no (dF ((8:Int)<(↑l.length:Int)) h1)<|.len (lM .sh encT l)<|.cutQ k212_0 [(0,.sl .sh (l.map encT)),(8,.sl .sh (l.map encT)),(9,.int .i64 (↑l.length)),(10,.int .i64 0)] (ζ1) (fun T hT=>(h (by omega) T hT).to (by grind[ckT]))))
theorem ckL2_loop(l:List Tol)(hn:l.length≤8):∀(post:List Tol)(i:Nat)(bs:List (List AV))(hd:l.drop i=post)(T:Env)(hT:Has T [(8,.sl .sh (l.map encL)),(9,.int .i64 l.length),(10,.int .i64 i)]),
 Goes cfg a142 k142_0 T ⟨bs,[],[]⟩ (IsRet (.int .i64 (if post.all okL then 0 else 3))):=by
 intro post
 induction post with
 |nil=>
  intro i bs hd T hT
  have hge:=drop_ge hd
  exact gG 60 _ hT (.no (dF ((↑i:Int)<(↑l.length:Int)))<|.fin ((.ret (.int .i64 0),{boxes:=bs,toks:=[],loops:=[]:Heap})) rfl)
 |cons x post ih=>
  intro i bs hd T hT
  have hlt:=drop_lt hd
  have hnx:=drop_next hd
  have hv:isName []=false:=rfl
  exact let ζ2:List AV:=[.str x.key,.str x.val,.bool x.any];let ζ1:Heap:={boxes:=bs++[ζ2],toks:=[],loops:=[]:Heap};gG 60 _ hT (.yes (dT ((↑i:Int)<(↑l.length:Int)))<|.idx (iR 3 encL hd)<|.load (rfl:loadA true 3 {boxes:=bs,toks:=[],loops:=[]:Heap} (.ref ζ2)=some (.agg ζ2))<|.store (show storeA 3 {boxes:=bs++[[AV.str [],.str [],.bool false]],toks:=[],loops:=[]:Heap} (.ptr bs.length 0) (.agg ζ2)=some (ζ1)from store_box2 (cs:=[.str [],.str [],.bool false]) (cs':=ζ2) (by simp+zetaDelta) rfl (by simp+zetaDelta [List.set_append]))<|.load (lB false 1 ζ1 bs.length 0 (.str x.key) ζ2)<|.split ((x.key==[])=true) (fun h1=>.no (show(!x.key==[])=false from by have hh:(x.key==[])=true:=h1;simp[hh])<|.ff<|.load (lB false 1 ζ1 bs.length 2 (.bool x.any) ζ2)<|.load (lB false 1 ζ1 bs.length 1 (.str x.val) ζ2)<|.split ((if true=true then !x.any==(x.val==[])else x.any==(x.val==[]))=true) (fun h2=>.yes (show(if true=true then !x.any==(x.val==[])else x.any==(x.val==[]))=true from h2)<|.tt<|.fin ((.ret (.int .i64 3),ζ1)) (by simp only[IsRet];grind[okL])) (fun h2=>.no (show(if true=true then !x.any==(x.val==[])else x.any==(x.val==[]))=false from Bool.eq_false_iff.2 h2)<|.load (lB false 1 ζ1 bs.length 2 (.bool x.any) ζ2)<|.split (x.any=true) (fun h3=>.no (show(!x.any)=false from by have hh:x.any=true:=h3;simp[hh])<|.ff<|.bin (iI i)<|.cutQ k142_0 [(8,.sl .sh (l.map encL)),(9,.int .i64 (↑l.length)),(10,.int .i64 (↑(i+1)))] (ζ1) (fun T hT=>(ih (i+1) (bs++[ζ2]) hnx T hT).to (by grind[okL]))) (fun h3=>.yes (show(!x.any)=true from by have hh:¬(x.any=true):=h3;simp[hh])<|.load (lB false 1 ζ1 bs.length 1 (.str x.val) ζ2)<|.callI (show Gives cfg 196 [.str x.val] (.bool (isName x.val))from res_name _)<|.split (isName x.val=true) (fun h4=>.no (show(!isName x.val)=false from by have hh:isName x.val=true:=h4;simp[hh])<|.bin (iI i)<|.cutQ k142_0 [(8,.sl .sh (l.map encL)),(9,.int .i64 (↑l.length)),(10,.int .i64 (↑(i+1)))] (ζ1) (fun T hT=>(ih (i+1) (bs++[ζ2]) hnx T hT).to (by grind[okL]))) (fun h4=>.yes (show(!isName x.val)=true from by have hh:¬(isName x.val=true):=h4;simp[hh])<|.fin ((.ret (.int .i64 3),ζ1)) (by simp only[IsRet];grind[okL]))))) (fun h1=>.yes (show(!x.key==[])=true from by have hh:¬((x.key==[])=true):=h1;simp[hh])<|.load (lB false 1 ζ1 bs.length 0 (.str x.key) ζ2)<|.callI (show Gives cfg 196 [.str x.key] (.bool (isName x.key))from res_name _)<|.split (isName x.key=true) (fun h2=>.no (show(!isName x.key)=false from by have hh:isName x.key=true:=h2;simp[hh])<|.load (lB false 1 ζ1 bs.length 2 (.bool x.any) ζ2)<|.load (lB false 1 ζ1 bs.length 1 (.str x.val) ζ2)<|.split ((if true=true then !x.any==(x.val==[])else x.any==(x.val==[]))=true) (fun h3=>.yes (show(if true=true then !x.any==(x.val==[])else x.any==(x.val==[]))=true from h3)<|.tt<|.fin ((.ret (.int .i64 3),ζ1)) (by simp only[IsRet];grind[okL])) (fun h3=>.no (show(if true=true then !x.any==(x.val==[])else x.any==(x.val==[]))=false from Bool.eq_false_iff.2 h3)<|.load (lB false 1 ζ1 bs.length 2 (.bool x.any) ζ2)<|.split (x.any=true) (fun h4=>.no (show(!x.any)=false from by have hh:x.any=true:=h4;simp[hh])<|.ff<|.bin (iI i)<|.cutQ k142_0 [(8,.sl .sh (l.map encL)),(9,.int .i64 (↑l.length)),(10,.int .i64 (↑(i+1)))] (ζ1) (fun T hT=>(ih (i+1) (bs++[ζ2]) hnx T hT).to (by grind[okL]))) (fun h4=>.yes (show(!x.any)=true from by have hh:¬(x.any=true):=h4;simp[hh])<|.load (lB false 1 ζ1 bs.length 1 (.str x.val) ζ2)<|.callI (show Gives cfg 196 [.str x.val] (.bool (isName x.val))from res_name _)<|.split (isName x.val=true) (fun h5=>.no (show(!isName x.val)=false from by have hh:isName x.val=true:=h5;simp[hh])<|.bin (iI i)<|.cutQ k142_0 [(8,.sl .sh (l.map encL)),(9,.int .i64 (↑l.length)),(10,.int .i64 (↑(i+1)))] (ζ1) (fun T hT=>(ih (i+1) (bs++[ζ2]) hnx T hT).to (by grind[okL]))) (fun h5=>.yes (show(!isName x.val)=true from by have hh:¬(isName x.val=true):=h5;simp[hh])<|.fin ((.ret (.int .i64 3),ζ1)) (by simp only[IsRet];grind[okL]))))) (fun h2=>.yes (show(!isName x.key)=true from by have hh:¬(isName x.key=true):=h2;simp[hh])<|.tt<|.tt<|.fin ((.ret (.int .i64 3),ζ1)) (by simp only[IsRet];grind[okL]))))
theorem ckL2(l:List Tol):Gives cfg 142 [.sl .sh (l.map encL)] (.int .i64 (ckL l)):=by
 refine Gives.run (l142 _ _) ?_
 have h:=fun hn=>ckL2_loop l hn l 0 [] rfl
 exact let ζ1:Heap:={boxes:=[],toks:=[],loops:=[]:Heap};gG 60 [] trivial (.len (lM .sh encL l)<|.split ((8:Int)<(↑l.length:Int)) (fun h1=>.yes (dT ((8:Int)<(↑l.length:Int)) h1)<|.fin ((.ret (.int .i64 4),ζ1)) (by simp only[IsRet];grind[ckL])) (fun h1=>.no (dF ((8:Int)<(↑l.length:Int)) h1)<|.len (lM .sh encL l)<|.cutQ k142_0 [(8,.sl .sh (l.map encL)),(9,.int .i64 (↑l.length)),(10,.int .i64 0)] (ζ1) (fun T hT=>(h (by omega) T hT).to (by grind[ckL]))))
def one1(x:Tol)(t:Taint):Bool:=(x.key==[]||x.key==t.key)&&(x.any||x.val==t.val)
end Go.Aa.T
set_option linter.unusedVariables false
set_option linter.unusedSimpArgs false
set_option maxRecDepth 100000
namespace Go.Aa.T
open Go.Aa Go.Proofs
end Go.Aa.T
set_option linter.unusedVariables false
set_option linter.unusedSimpArgs false
set_option maxRecDepth 100000
namespace Go.Aa.T
open Go.Aa Go.Proofs
structure Amount where
 name:List UInt8
 n:Int
def encA(x:Amount):AV:=.agg [.str x.name,.int .i64 x.n]
instance(x:Amount):Dat (encA x):=⟨rfl,rfl⟩
theorem lenA2{l:List Amount}:lenOk 2 (l.map encA)=true:=lenOk_map fun _=>rfl
def ordV(s:List Amount)(i:Nat)(x:Amount):Bool:=match i with
 |0=>false
 |j+1=>match s[j]? with
  |some p=>Op.bytesLess x.name p.name||x.name==p.name
  |none=>false
def ckVl(s:List Amount):Nat→List Amount→Int
 |_,[]=>0
 |i,x::post=>if isName x.name then(if x.n≤0 then 1 else if ordV s i x then 13 else ckVl s (i+1) post)else 3
def ckV(s:List Amount):Int:=if s.length≤8 then ckVl s 0 s else 4
theorem ckV_ref_loop(l:List Amount)(hn:l.length≤8):∀(post:List Amount)(i:Nat)(hd:l.drop i=post)(T:Env)(hT:Has T [(0,.sl .sh (l.map encA)),(3,.int .i64 i)]),
 Goes cfg a67 k67_0 T Heap.nil (IsRet (.int .i64 (ckVl l i post))):=by
 intro post
 induction post with
 |nil=>
  intro i hd T hT
  have hge:=drop_ge hd
  exact gG 60 _ hT (.len (lM .sh encA l)<|.no (dF ((↑i:Int)<(↑l.length:Int)))<|.fin ((.ret (.int .i64 0),{boxes:=[],toks:=[],loops:=[]:Heap})) rfl)
 |cons x post ih=>
  intro i hd T hT
  have hlt:=drop_lt hd
  have hnx:=drop_next hd
  cases i with
  |zero=>exact let ζ1:Heap:={boxes:=[],toks:=[],loops:=[]:Heap};gG 60 _ hT (.len (lM .sh encA l)<|.yes (dT ((↑(0:Nat):Int)<(↑l.length:Int)))<|.idx (show idxA 2 (.sl .sh (l.map encA)) (.int .i64 (↑(0:Nat):Int))=some (.ref (encA x).cells)from idx_row hd (by rfl))<|.callI (show Gives cfg 66 [.str x.name] (.bool (isName x.name))from name_any _)<|.split (isName x.name=true) (fun h1=>.no (show(!isName x.name)=false from by have hh:isName x.name=true:=h1;simp[hh])<|.idx (show idxA 2 (.sl .sh (l.map encA)) (.int .i64 (↑(0:Nat):Int))=some (.ref (encA x).cells)from idx_row hd (by rfl))<|.split (x.n≤(0:Int)) (fun h2=>.yes (dT (x.n≤(0:Int)) h2)<|.fin ((.ret (.int .i64 1),ζ1)) (by simp only[IsRet];grind[ckVl,ordV])) (fun h2=>.no (dF (x.n≤(0:Int)) h2)<|.ff<|.ff<|.bin (show binA .add (.int .i64 (↑(0:Nat):Int)) (.int .i64 1)=some (.int .i64 (↑(0+1):Int))from inc_i (by omega))<|.cutQ k67_0 [(0,.sl .sh (l.map encA)),(3,.int .i64 (↑(0+1):Int))] (ζ1) (fun T hT=>(ih (0+1) hnx T hT).to (by grind[ckVl,ordV])))) (fun h1=>.yes (show(!isName x.name)=true from by have hh:¬(isName x.name=true):=h1;simp[hh])<|.fin ((.ret (.int .i64 3),ζ1)) (by simp only[IsRet];grind[ckVl,ordV])))
  |succ j=>
   obtain⟨p,hp⟩:∃p,l[j]?=some p:=⟨l[j],List.getElem?_eq_getElem (by omega)⟩
   exact let ζ1:Heap:={boxes:=[],toks:=[],loops:=[]:Heap};gG 60 _ hT (.len (lM .sh encA l)<|.yes (dT ((↑(j+1):Int)<(↑l.length:Int)))<|.idx (show idxA 2 (.sl .sh (l.map encA)) (.int .i64 (↑(j+1):Int))=some (.ref (encA x).cells)from idx_row hd (by rfl))<|.callI (show Gives cfg 66 [.str x.name] (.bool (isName x.name))from name_any _)<|.split (isName x.name=true) (fun h1=>.no (show(!isName x.name)=false from by have hh:isName x.name=true:=h1;simp[hh])<|.idx (show idxA 2 (.sl .sh (l.map encA)) (.int .i64 (↑(j+1):Int))=some (.ref (encA x).cells)from idx_row hd (by rfl))<|.split (x.n≤(0:Int)) (fun h2=>.yes (dT (x.n≤(0:Int)) h2)<|.fin ((.ret (.int .i64 1),ζ1)) (by simp only[IsRet];grind[ckVl,ordV])) (fun h2=>.no (dF (x.n≤(0:Int)) h2)<|.yes (dT ((0:Int)<(↑(j+1):Int)))<|.idx (show idxA 2 (.sl .sh (l.map encA)) (.int .i64 (↑(j+1):Int))=some (.ref (encA x).cells)from idx_row hd (by rfl))<|.bin (show binA .sub (.int .i64 (↑(j+1):Int)) (.int .i64 1)=some (.int .i64 ↑j)from dec_i (by omega))<|.idx (show idxA 2 (.sl .sh (l.map encA)) (.int .i64 ↑j)=some (.ref (encA p).cells)from idx_get hp (by rfl))<|.split ((Op.bytesLess x.name p.name||x.name==p.name)=true) (fun h3=>.yes (show(Op.bytesLess x.name p.name||x.name==p.name)=true from h3)<|.fin ((.ret (.int .i64 13),ζ1)) (by simp only[IsRet];grind[ckVl,ordV])) (fun h3=>.no (show(Op.bytesLess x.name p.name||x.name==p.name)=false from Bool.eq_false_iff.2 h3)<|.bin (show binA .add (.int .i64 (↑(j+1):Int)) (.int .i64 1)=some (.int .i64 (↑(j+1+1):Int))from inc_i (by omega))<|.cutQ k67_0 [(0,.sl .sh (l.map encA)),(3,.int .i64 (↑(j+1+1):Int))] (ζ1) (fun T hT=>(ih (j+1+1) hnx T hT).to (by grind[ckVl,ordV]))))) (fun h1=>.yes (show(!isName x.name)=true from by have hh:¬(isName x.name=true):=h1;simp[hh])<|.fin ((.ret (.int .i64 3),ζ1)) (by simp only[IsRet];grind[ckVl,ordV])))
theorem ckV_ref(l:List Amount):Gives cfg 67 [.sl .sh (l.map encA)] (.int .i64 (ckV l)):=by
 refine Gives.run (l67 _ _) ?_
 have h:=fun hn=>ckV_ref_loop l hn l 0 rfl
 exact let ζ1:Heap:={boxes:=[],toks:=[],loops:=[]:Heap};gG 60 [] trivial (.len (lM .sh encA l)<|.split ((8:Int)<(↑l.length:Int)) (fun h1=>.yes (dT ((8:Int)<(↑l.length:Int)) h1)<|.fin ((.ret (.int .i64 4),ζ1)) (by simp only[IsRet];grind[ckV])) (fun h1=>.no (dF ((8:Int)<(↑l.length:Int)) h1)<|.cutQ k67_0 [(0,.sl .sh (l.map encA)),(3,.int .i64 0)] (ζ1) (fun T hT=>(h (by omega) T hT).to (by grind[ckV]))))
theorem ckV_loop(l:List Amount)(hn:l.length≤8):∀(post:List Amount)(i:Nat)(bs:List (List AV))(hd:l.drop i=post)(T:Env)(hT:Has T [(0,.sl .sh (l.map encA)),(8,.sl .sh (l.map encA)),(9,.int .i64 l.length),(10,.int .i64 i)]),
 Goes cfg a139 k139_0 T ⟨bs,[],[]⟩ (IsRet (.int .i64 (ckVl l i post))):=by
 intro post
 induction post with
 |nil=>
  intro i bs hd T hT
  have hge:=drop_ge hd
  exact gG 60 _ hT (.no (dF ((↑i:Int)<(↑l.length:Int)))<|.fin ((.ret (.int .i64 0),{boxes:=bs,toks:=[],loops:=[]:Heap})) rfl)
 |cons x post ih=>
  intro i bs hd T hT
  have hlt:=drop_lt hd
  have hnx:=drop_next hd
  cases i with
  |zero=>exact let ζ1:Heap:={boxes:=bs++[[AV.str x.name,.int .i64 x.n]],toks:=[],loops:=[]:Heap};gG 60 _ hT (.yes (dT ((↑(0:Nat):Int)<(↑l.length:Int)))<|.idx (show idxA 2 (.sl .sh (l.map encA)) (.int .i64 (↑(0:Nat):Int))=some (.ref (encA x).cells)from idx_row hd (by rfl))<|.load (rfl:loadA true 2 {boxes:=bs,toks:=[],loops:=[]:Heap} (.ref [.str x.name,.int .i64 x.n])=some (.agg [.str x.name,.int .i64 x.n]))<|.store (show storeA 2 {boxes:=bs++[[AV.str [],.int .i64 0]],toks:=[],loops:=[]:Heap} (.ptr bs.length 0) (.agg [.str x.name,.int .i64 x.n])=some (ζ1)from store_box2 (cs:=[.str [],.int .i64 0]) (cs':=[.str x.name,.int .i64 x.n]) (by simp+zetaDelta) rfl (by simp+zetaDelta [List.set_append]))<|.load (lB false 1 ζ1 bs.length 0 (.str x.name) [.str x.name,.int .i64 x.n])<|.callI (show Gives cfg 196 [.str x.name] (.bool (isName x.name))from res_name _)<|.split (isName x.name=true) (fun h1=>.no (show(!isName x.name)=false from by have hh:isName x.name=true:=h1;simp[hh])<|.load (lB false 1 ζ1 bs.length 1 (.int .i64 x.n) [.str x.name,.int .i64 x.n])<|.split (x.n≤(0:Int)) (fun h2=>.yes (dT (x.n≤(0:Int)) h2)<|.fin ((.ret (.int .i64 1),ζ1)) (by simp only[IsRet];grind[ckVl,ordV])) (fun h2=>.no (dF (x.n≤(0:Int)) h2)<|.ff<|.ff<|.bin (show binA .add (.int .i64 (↑(0:Nat):Int)) (.int .i64 1)=some (.int .i64 (↑(0+1):Int))from inc_i (by omega))<|.cutQ k139_0 [(0,.sl .sh (l.map encA)),(8,.sl .sh (l.map encA)),(9,.int .i64 (↑l.length)),(10,.int .i64 (↑(0+1):Int))] (ζ1) (fun T hT=>(ih (0+1) (bs++[[AV.str x.name,.int .i64 x.n]]) hnx T hT).to (by grind[ckVl,ordV])))) (fun h1=>.yes (show(!isName x.name)=true from by have hh:¬(isName x.name=true):=h1;simp[hh])<|.fin ((.ret (.int .i64 3),ζ1)) (by simp only[IsRet];grind[ckVl,ordV])))
  |succ j=>
   obtain⟨p,hp⟩:∃p,l[j]?=some p:=⟨l[j],List.getElem?_eq_getElem (by omega)⟩
   exact let ζ1:Heap:={boxes:=bs++[[AV.str x.name,.int .i64 x.n]],toks:=[],loops:=[]:Heap};gG 60 _ hT (.yes (dT ((↑(j+1):Int)<(↑l.length:Int)))<|.idx (show idxA 2 (.sl .sh (l.map encA)) (.int .i64 (↑(j+1):Int))=some (.ref (encA x).cells)from idx_row hd (by rfl))<|.load (rfl:loadA true 2 {boxes:=bs,toks:=[],loops:=[]:Heap} (.ref [.str x.name,.int .i64 x.n])=some (.agg [.str x.name,.int .i64 x.n]))<|.store (show storeA 2 {boxes:=bs++[[AV.str [],.int .i64 0]],toks:=[],loops:=[]:Heap} (.ptr bs.length 0) (.agg [.str x.name,.int .i64 x.n])=some (ζ1)from store_box2 (cs:=[.str [],.int .i64 0]) (cs':=[.str x.name,.int .i64 x.n]) (by simp+zetaDelta) rfl (by simp+zetaDelta [List.set_append]))<|.load (lB false 1 ζ1 bs.length 0 (.str x.name) [.str x.name,.int .i64 x.n])<|.callI (show Gives cfg 196 [.str x.name] (.bool (isName x.name))from res_name _)<|.split (isName x.name=true) (fun h1=>.no (show(!isName x.name)=false from by have hh:isName x.name=true:=h1;simp[hh])<|.load (lB false 1 ζ1 bs.length 1 (.int .i64 x.n) [.str x.name,.int .i64 x.n])<|.split (x.n≤(0:Int)) (fun h2=>.yes (dT (x.n≤(0:Int)) h2)<|.fin ((.ret (.int .i64 1),ζ1)) (by simp only[IsRet];grind[ckVl,ordV])) (fun h2=>.no (dF (x.n≤(0:Int)) h2)<|.yes (dT ((0:Int)<(↑(j+1):Int)))<|.load (lB false 1 ζ1 bs.length 0 (.str x.name) [.str x.name,.int .i64 x.n])<|.bin (show binA .sub (.int .i64 (↑(j+1):Int)) (.int .i64 1)=some (.int .i64 ↑j)from dec_i (by omega))<|.idx (show idxA 2 (.sl .sh (l.map encA)) (.int .i64 ↑j)=some (.ref (encA p).cells)from idx_get hp (by rfl))<|.load (rfl:loadA false 1 ζ1 (.ref [.str p.name])=some (.str p.name))<|.split ((Op.bytesLess x.name p.name||x.name==p.name)=true) (fun h3=>.yes (show(Op.bytesLess x.name p.name||x.name==p.name)=true from h3)<|.fin ((.ret (.int .i64 13),ζ1)) (by simp only[IsRet];grind[ckVl,ordV])) (fun h3=>.no (show(Op.bytesLess x.name p.name||x.name==p.name)=false from Bool.eq_false_iff.2 h3)<|.bin (show binA .add (.int .i64 (↑(j+1):Int)) (.int .i64 1)=some (.int .i64 (↑(j+1+1):Int))from inc_i (by omega))<|.cutQ k139_0 [(0,.sl .sh (l.map encA)),(8,.sl .sh (l.map encA)),(9,.int .i64 (↑l.length)),(10,.int .i64 (↑(j+1+1):Int))] (ζ1) (fun T hT=>(ih (j+1+1) (bs++[[AV.str x.name,.int .i64 x.n]]) hnx T hT).to (by grind[ckVl,ordV]))))) (fun h1=>.yes (show(!isName x.name)=true from by have hh:¬(isName x.name=true):=h1;simp[hh])<|.fin ((.ret (.int .i64 3),ζ1)) (by simp only[IsRet];grind[ckVl,ordV])))
theorem ckV_any(l:List Amount):Gives cfg 139 [.sl .sh (l.map encA)] (.int .i64 (ckV l)):=by
 refine Gives.run (l139 _ _) ?_
 have h:=fun hn=>ckV_loop l hn l 0 [] rfl
 exact let ζ1:Heap:={boxes:=[],toks:=[],loops:=[]:Heap};gG 60 [] trivial (.len (lM .sh encA l)<|.split ((8:Int)<(↑l.length:Int)) (fun h1=>.yes (dT ((8:Int)<(↑l.length:Int)) h1)<|.fin ((.ret (.int .i64 4),ζ1)) (by simp only[IsRet];grind[ckV])) (fun h1=>.no (dF ((8:Int)<(↑l.length:Int)) h1)<|.len (lM .sh encA l)<|.cutQ k139_0 [(0,.sl .sh (l.map encA)),(8,.sl .sh (l.map encA)),(9,.int .i64 (↑l.length)),(10,.int .i64 0)] (ζ1) (fun T hT=>(h (by omega) T hT).to (by grind[ckV]))))
end Go.Aa.T
set_option linter.unusedVariables false
set_option linter.unusedSimpArgs false
set_option maxRecDepth 100000
namespace Go.Aa.T
open Go.Aa Go.Proofs
def encI(x:Int):AV:=.int .i64 x
def firstE:List Int→Int
 |[]=>0
 |x::r=>if x=0 then firstE r else x
theorem first_loop(l:List Int)(hn:l.length≤100):∀(post:List Int)(i:Nat)(hd:l.drop i=post)(T:Env)(hT:Has T [(5,.sl .sh (l.map encI)),(6,.int .i64 l.length),(7,.int .i64 i)]),
 Goes cfg a135 k135_0 T Heap.nil (IsRet (.int .i64 (firstE post))):=by
 intro post
 induction post with
 |nil=>
  intro i hd T hT
  have hge:=drop_ge hd
  exact gG 60 _ hT (.no (dF ((↑i:Int)<(↑l.length:Int)))<|.fin ((.ret (.int .i64 0),{boxes:=[],toks:=[],loops:=[]:Heap})) rfl)
 |cons x post ih=>
  intro i hd T hT
  have hlt:=drop_lt hd
  have hnx:=drop_next hd
  have hidx:idxA 1 (.sl .sh (l.map encI)) (.int .i64 (i:Nat))=some (.ref [.int .i64 x]):=idx_row (f:=encI) hd rfl
  by_cases h0:x=0
  ·have e:firstE (x::post)=firstE post:=by simp[firstE,h0]
   rw[e]
   have ih':=ih (i+1) hnx
   exact gG 60 _ hT (.yes (dT ((↑i:Int)<(↑l.length:Int)))<|.idx hidx<|.no (show(x !=(0:Int))=false from Bool.eq_false_iff.2 (by simpa using h0))<|.bin (iI i)<|.cutQ k135_0 [(5,.sl .sh (l.map encI)),(6,.int .i64 (↑l.length)),(7,.int .i64 (↑(i+1)))] ({boxes:=[],toks:=[],loops:=[]:Heap}) (fun T hT=>(ih' T hT)))
  ·have e:firstE (x::post)=x:=by simp[firstE,h0]
   rw[e]
   exact gG 60 _ hT (.yes (dT ((↑i:Int)<(↑l.length:Int)))<|.idx hidx<|.yes (show(x !=(0:Int))=true from(by simpa using h0))<|.fin ((.ret (.int .i64 x),{boxes:=[],toks:=[],loops:=[]:Heap})) rfl)
theorem first_any(l:List Int)(hn:l.length≤100):Gives cfg 135 [.sl .sh (l.map encI)] (.int .i64 (firstE l)):=by
 refine Gives.run (l135 _ _) ?_
 have h:=first_loop l hn l 0 rfl
 exact gG 60 [] trivial (.len (lM .sh encI l)<|.cutQ k135_0 [(5,.sl .sh (l.map encI)),(6,.int .i64 (↑l.length)),(7,.int .i64 0)] ({boxes:=[],toks:=[],loops:=[]:Heap}) (fun T hT=>(h T hT)))
theorem named_any(s:List UInt8):Gives cfg 136 [.str s] (.int .i64 (if isName s then 0 else 3)):=by
 refine Gives.run (l136 _ _) ?_
 exact let ζ1:Heap:={boxes:=[],toks:=[],loops:=[]:Heap};gG 60 [] trivial (.callI (show Gives cfg 196 [.str s] (.bool (isName s))from res_name _)<|.split (isName s=true) (fun h1=>.no (show(!isName s)=false from by have hh:isName s=true:=h1;simp[hh])<|.fin ((.ret (.int .i64 0),ζ1)) (by simp only[IsRet];grind)) (fun h1=>.yes (show(!isName s)=true from by have hh:¬(isName s=true):=h1;simp[hh])<|.fin ((.ret (.int .i64 3),ζ1)) (by simp only[IsRet];grind)))
end Go.Aa.T
set_option linter.unusedVariables false
set_option linter.unusedSimpArgs false
set_option maxRecDepth 100000
namespace Go.Aa.T
open Go.Aa Go.Proofs
structure Node where
 name:List UInt8
 cap:List Amount
 labels:List Pair
 taints:List Taint
 cordon:Bool
def encN(n:Node):AV:=.agg [.str n.name,.sl .sh (n.cap.map encA),.sl .sh (n.labels.map encP),.sl .sh (n.taints.map encT),.bool n.cordon]
def ckN(n:Node):Int:=firstE [if isName n.name then 0 else 3,ckV n.cap,ckS n.labels,ckT n.taints]
theorem first4(a b c d:Int):Gives cfg 135 [.sl .sh [.int .i64 a,.int .i64 b,.int .i64 c,.int .i64 d]] (.int .i64 (firstE [a,b,c,d])):=first_any [a,b,c,d] (by simp)
theorem ckN_any(n:Node):Gives cfg 171 [encN n] (.int .i64 (ckN n)):=by
 refine Gives.run (l171 _ _) ?_
 exact let ζ1:List AV:=[.int .i64 (if isName n.name=true then(0:Int)else(3:Int)),.int .i64 (ckV n.cap),.int .i64 (ckS n.labels),.int .i64 (ckT n.taints)];gG 60 [] trivial (.callI (show Gives cfg 136 [.str n.name] (.int .i64 (if isName n.name=true then(0:Int)else(3:Int)))from named_any _)<|.callI (show Gives cfg 139 [.sl .sh (n.cap.map encA)] (.int .i64 (ckV n.cap))from ckV_any _)<|.callI (show Gives cfg 140 [.sl .sh (n.labels.map encP)] (.int .i64 (ckS n.labels))from ckS_any _)<|.callI (show Gives cfg 212 [.sl .sh (n.taints.map encT)] (.int .i64 (ckT n.taints))from ckT2 _)<|.callK ([.sl .full ζ1]) (.int .i64 (firstE [if isName n.name=true then(0:Int)else(3:Int),ckV n.cap,ckS n.labels,ckT n.taints])) (show Gives cfg 135 [.sl .sh ζ1] (.int .i64 (firstE [if isName n.name=true then(0:Int)else(3:Int),ckV n.cap,ckS n.labels,ckT n.taints]))from first4 _ _ _ _)<|.fin ((.ret (.int .i64 (firstE [if isName n.name=true then(0:Int)else(3:Int),ckV n.cap,ckS n.labels,ckT n.taints])),{boxes:=[[.str n.name,.sl .sh (n.cap.map encA),.sl .sh (n.labels.map encP),.sl .sh (n.taints.map encT),.bool n.cordon]],toks:=[],loops:=[]:Heap})) rfl)
end Go.Aa.T
set_option linter.unusedVariables false
set_option linter.unusedSimpArgs false
set_option maxRecDepth 100000
namespace Go.Aa.T
open Go.Aa Go.Proofs
end Go.Aa.T
