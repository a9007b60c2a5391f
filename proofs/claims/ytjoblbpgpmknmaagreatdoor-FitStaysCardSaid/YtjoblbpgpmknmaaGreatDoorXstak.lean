/-
  WHAT THE LAW LEANS ON, part 11 of 12: a machine of values and its soundness; the functions of the law upon it; what they come to.
-/
import Derived.Test.YtjoblbpgpmknmaaGreatDoorXstaj
import Derived.Shelf.Sort.Plain
import Derived.Shelf.Slices.In.SortNone
import Derived.Shelf.Slices.In.SortAlone
import Derived.Shelf.Small.Strs
set_option linter.unusedVariables false
set_option linter.unusedSimpArgs false
set_option maxRecDepth 100000
namespace Go.Aa.T
open Go.Aa Go.Proofs
def valsOf(key:List UInt8)(l:List Node):List (List UInt8):=l.filterMap fun n=>getP n.labels key
def domsS(s:St)(key:List UInt8):List (List UInt8):=namesOf (valsOf key s.nodes)
theorem vals_len(key:List UInt8)(l:List Node):(valsOf key l).length≤l.length:=List.length_filterMap_le _ _
theorem dm_end(s:St)(acc:List (List UInt8))(B:List (List AV))(kk:Nat)(hB:acc=[]∨B[kk]?=some (acc.map .str))(hl:acc.length≤100000)(T:Env)(i:Nat)(hi:s.nodes.length≤i)
 (hT:Has T [(5,rM kk acc),(11,.sl .sh (s.nodes.map encN)),(12,.int .i64 s.nodes.length),(13,.int .i64 i)]):Goes cfg a157 k157_0 T ⟨B,[],[]⟩ (FinN acc):=by
 cases acc with
 |nil=>
  have h1:=(does_data sort_none [.sl .full []] rfl rfl rfl rfl ⟨B,[],[]⟩).2
  have h2:=(does_data compact_none [.sl .full []] rfl rfl rfl rfl ⟨B,[],[]⟩).2
  exact let ζ1:Heap:={boxes:=B,toks:=[],loops:=[]:Heap};goG 60 _ hT (.no (decide_eq_false (p:=(↑i:Int)<(↑s.nodes.length:Int)) (by omega))<|.effY (show Does cfg (.callM (.c (.func (204:FuncId) [])) (List.map .c [.sl .full []])) ζ1 (.tuple []) ζ1 from h1)<|.effY (show Does cfg (.callM (.c (.func (205:FuncId) [])) (List.map .c [.sl .full []])) ζ1 (.sl .sh []) ζ1 from h2)<|.fin ((.ret (.sl .sh []),ζ1)) (by exact⟨_,rfl,rfl⟩)) (by kernel_rfl)
 |cons x l=>
  have hk:B[kk]?=some ((x::l).map .str):=by simpa using hB
  have h1:=sort_does hk (by simp) (by omega)
  have hkl:kk<B.length:=(List.getElem?_eq_some_iff.1 hk).1
  obtain⟨m,C,h2,h3,h4,h5⟩:=compact_any kk (x::l).length B (by omega) hkl (isort (x::l)) (isort_length _) (by simp)
  rw[List.length_cons]at h1 h2 h5
  have hout:dataOut ⟨B.set kk (C.map .str),[],[]⟩ (.msl kk 0 m 1)=some (.sl .sh ((namesOf (x::l)).map .str)):=by
   have:=out_box1 (bs:=B.set kk (C.map .str)) (tk:=[]) (ls:=[]) (kk:=kk) (n:=m) (List.getElem?_set_self hkl) (by simpa using h4) (strs_data C)
   rw[this,←List.map_take,h3];rfl
  exact let ζ1:Heap:={boxes:=B.set kk (List.map .str (isort (x::l))),toks:=[],loops:=[]:Heap};let ζ2:Heap:={boxes:=B.set kk (List.map .str C),toks:=[],loops:=[]:Heap};goG 60 _ hT (.no (decide_eq_false (p:=(↑i:Int)<(↑s.nodes.length:Int)) (by omega))<|.effY (show Does cfg (.callM (.c (.func (204:FuncId) [])) [.c (.msl kk (0:Nat) (l.length+(1:Nat)) (1:Nat))]) {boxes:=B,toks:=[],loops:=[]:Heap} (.tuple []) ζ1 from h1)<|.effY (show Does cfg (.callM (.c (.func (205:FuncId) [])) [.c (.msl kk (0:Nat) (l.length+(1:Nat)) (1:Nat))]) ζ1 (.msl kk (0:Nat) m (1:Nat)) ζ2 from h2)<|.fin ((.ret (.msl kk (0:Nat) m (1:Nat)),ζ2)) (by exact⟨_,rfl,hout⟩)) (by kernel_rfl)
theorem dm_loop(s:St)(key:List UInt8)(hs:s.nodes.length≤1000)(hl:∀n∈s.nodes,n.labels.length<9223372036854775807):∀(post:List Node)(i:Nat)(hd:s.nodes.drop i=post)(hi:i≤s.nodes.length)(acc:List (List UInt8))(B:List (List AV))(kk:Nat)(hB:acc=[]∨B[kk]?=some (acc.map .str))(hl:acc.length≤i)(T:Env)
 (hT:Has T [(1,.str key),(5,rM kk acc),(11,.sl .sh (s.nodes.map encN)),(12,.int .i64 s.nodes.length),(13,.int .i64 i)]),Goes cfg a157 k157_0 T ⟨B,[],[]⟩ (FinN (acc++valsOf key post)):=by
 intro post
 induction post with
 |nil=>
  intro i hd hi acc B kk hB hl T hT
  have hge:=drop_ge hd
  rw[show acc++valsOf key []=acc by simp[valsOf]]
  exact dm_end s acc B kk hB (by omega) T i hge hT.2
 |cons x post ih=>
  intro i hd hi acc B kk hB hl2 T hT
  have hlt:=drop_lt hd
  have hnx:=drop_next hd
  have hxi:idxA 5 (.sl .sh (s.nodes.map encN)) (.int .i64 (i:Nat))=some (.ref (encN x).cells):=idx_row (f:=encN) hd rfl
  have g:=get_any x.labels key (hl x (drop_mem hd))
  cases hv:getP x.labels key with
  |none=>
   rw[hv]at g
   have g:Gives cfg 200 [.sl .sh (x.labels.map encP),.str key] (.tuple [.str [],.bool false]):=g
   have g2:=fun H=>(does_data g [.sl .sh (x.labels.map encP),.str key] rfl rfl rfl rfl H).2
   have e:acc++valsOf key (x::post)=acc++valsOf key post:=by simp[valsOf,hv]
   rw[e]
   have hB':acc=[]∨(B++[(encN x).cells])[kk]?=some (acc.map .str):=by
    rcases hB with h|h
    ·exact .inl h
    ·exact .inr (by rw[List.getElem?_append_left (List.getElem?_eq_some_iff.1 h).1,h])
   have ih':=ih (i+1) hnx hlt acc (B++[(encN x).cells]) kk hB' (by omega)
   exact let ζ1:List AV:=[.str x.name,.sl .sh (x.cap.map encA),.sl .sh (x.labels.map encP),.sl .sh (x.taints.map encT),.bool x.cordon];let ζ2:Heap:={boxes:=B++[ζ1],toks:=[],loops:=[]:Heap};let ζ3:List AV:=[.str [],.sl .full [],.sl .full [],.sl .full [],.bool false];goG 120 _ hT (.yes (decide_eq_true (p:=(↑i:Int)<(↑s.nodes.length:Int)) (by omega))<|.idx (show idxA 5 (.sl .sh (s.nodes.map encN)) (.int .i64 ↑i)=some (.ref (encN x).cells)from hxi)<|.load (rfl:loadA true 5 {boxes:=B,toks:=[],loops:=[]:Heap} (.ref ζ1)=some (.agg ζ1))<|.store (show storeA 5 {boxes:=B++[ζ3],toks:=[],loops:=[]:Heap} (.ptr B.length (0:Nat)) (.agg ζ1)=some (ζ2)from store_box2 (cs:=ζ3) (cs':=ζ1) (by simp+zetaDelta) rfl (by simp+zetaDelta [List.set_append]))<|.load (show loadA false 1 ζ2 (.ptr B.length (2:Nat))=some (.sl .sh (x.labels.map encP))from load_box (cs:=ζ1) (by simp+zetaDelta) rfl)<|.effY (show Does cfg (.callM (.c (.func (200:FuncId) [])) (List.map .c [.sl .sh (x.labels.map encP),.str key])) ζ2 (.tuple [.str [],.bool false]) ζ2 from g2 _)<|.ff<|.bin (show binA .add (.int .i64 ↑i) (.int .i64 1)=some (.int .i64 (↑(i+1)))from inc_i (by omega))<|.cutQ k157_0 [(1,.str key),(5,rM kk acc),(11,.sl .sh (s.nodes.map encN)),(12,.int .i64 (↑s.nodes.length)),(13,.int .i64 (↑(i+1)))] (ζ2) (fun T hT=>(ih' T hT))) (by kernel_rfl)
  |some v=>
   rw[hv]at g
   have g:Gives cfg 200 [.sl .sh (x.labels.map encP),.str key] (.tuple [.str v,.bool true]):=g
   have g2:=fun H=>(does_data g [.sl .sh (x.labels.map encP),.str key] rfl rfl rfl rfl H).2
   have e:acc++valsOf key (x::post)=(acc++[v])++valsOf key post:=by simp[valsOf,hv]
   rw[e]
   cases acc with
   |nil=>
    have ap:=does_newB (es:=1) (b:=16) (B:=B++[(encN x).cells]) (tk:=[]) (ls:=[]) (v:=.str v) (sk:=.full) rfl rfl (by omega)
    have ih':=ih (i+1) hnx hlt [v] (B++[(encN x).cells]++[[AV.str v]]) (B++[(encN x).cells]).length (.inr (by simp)) (by simp)
    exact let ζ1:List AV:=[.str x.name,.sl .sh (x.cap.map encA),.sl .sh (x.labels.map encP),.sl .sh (x.taints.map encT),.bool x.cordon];let ζ2:Heap:={boxes:=B++[ζ1],toks:=[],loops:=[]:Heap};let ζ3:List AV:=[.str [],.sl .full [],.sl .full [],.sl .full [],.bool false];goG 120 _ hT (.yes (decide_eq_true (p:=(↑i:Int)<(↑s.nodes.length:Int)) (by omega))<|.idx (show idxA 5 (.sl .sh (s.nodes.map encN)) (.int .i64 ↑i)=some (.ref (encN x).cells)from hxi)<|.load (rfl:loadA true 5 {boxes:=B,toks:=[],loops:=[]:Heap} (.ref ζ1)=some (.agg ζ1))<|.store (show storeA 5 {boxes:=B++[ζ3],toks:=[],loops:=[]:Heap} (.ptr B.length (0:Nat)) (.agg ζ1)=some (ζ2)from store_box2 (cs:=ζ3) (cs':=ζ1) (by simp+zetaDelta) rfl (by simp+zetaDelta [List.set_append]))<|.load (show loadA false 1 ζ2 (.ptr B.length (2:Nat))=some (.sl .sh (x.labels.map encP))from load_box (cs:=ζ1) (by simp+zetaDelta) rfl)<|.effY (show Does cfg (.callM (.c (.func (200:FuncId) [])) (List.map .c [.sl .sh (x.labels.map encP),.str key])) ζ2 (.tuple [.str v,.bool true]) ζ2 from g2 _)<|.tt<|.effY (show Does cfg (.appendM (1:Nat) (16:Nat) (.c (.sl .full [])) (.c (.sl .full [.str v]))) {boxes:=B++[(encN x).cells],toks:=[],loops:=[]:Heap} (.msl (B++[(encN x).cells]).length (0:Nat) (1:Nat) (1:Nat)) {boxes:=B++[(encN x).cells]++[(AV.str v).cells],toks:=[],loops:=[]:Heap}from ap)<|.bin (show binA .add (.int .i64 ↑i) (.int .i64 1)=some (.int .i64 (↑(i+1)))from inc_i (by omega))<|.cutQ k157_0 [(1,.str key),(5,.msl (B++[ζ1]).length (0:Nat) (1:Nat) (1:Nat)),(11,.sl .sh (s.nodes.map encN)),(12,.int .i64 (↑s.nodes.length)),(13,.int .i64 (↑(i+1)))] ({boxes:=B++[ζ1]++[[AV.str v]],toks:=[],loops:=[]:Heap}) (fun T hT=>(ih' T hT))) (by kernel_rfl)
   |cons y l=>
    have hk:B[kk]?=some ((y::l).map .str):=by simpa using hB
    have hk2:(B++[(encN x).cells])[kk]?=some ((y::l).map .str):=by rw[List.getElem?_append_left (List.getElem?_eq_some_iff.1 hk).1,hk]
    have ap:=does_growB (es:=1) (b:=16) (n:=l.length+1) (tk:=[]) (ls:=[]) (v:=.str v) (sk:=.full) hk2 (by simp) (by omega) (strs_data _) rfl rfl (by simp at hl2;omega)
    obtain⟨D,hD⟩:∃D,D=(y::l).map AV.str++(AV.str v).cells:=⟨_,rfl⟩
    rw[←hD]at ap
    have ih':=ih (i+1) hnx hlt ((y::l)++[v]) ((B++[(encN x).cells]).set kk []++[D]) (B++[(encN x).cells]).length (.inr (by
     rw[List.getElem?_append_right (by simp),hD];simp[AV.cells])) (by simp at hl2⊢;omega)
    have er:rM (B++[(encN x).cells]).length ((y::l)++[v])=.msl (B++[(encN x).cells]).length 0 (l.length+1+1) 1:=by simp[rM]
    rw[er]at ih'
    exact let ζ1:List AV:=[.str x.name,.sl .sh (x.cap.map encA),.sl .sh (x.labels.map encP),.sl .sh (x.taints.map encT),.bool x.cordon];let ζ2:Heap:={boxes:=B++[ζ1],toks:=[],loops:=[]:Heap};let ζ3:Heap:={boxes:=(B++[(encN x).cells]).set kk []++[D],toks:=[],loops:=[]:Heap};let ζ4:List AV:=[.str [],.sl .full [],.sl .full [],.sl .full [],.bool false];goG 120 _ hT (.yes (decide_eq_true (p:=(↑i:Int)<(↑s.nodes.length:Int)) (by omega))<|.idx (show idxA 5 (.sl .sh (s.nodes.map encN)) (.int .i64 ↑i)=some (.ref (encN x).cells)from hxi)<|.load (rfl:loadA true 5 {boxes:=B,toks:=[],loops:=[]:Heap} (.ref ζ1)=some (.agg ζ1))<|.store (show storeA 5 {boxes:=B++[ζ4],toks:=[],loops:=[]:Heap} (.ptr B.length (0:Nat)) (.agg ζ1)=some (ζ2)from store_box2 (cs:=ζ4) (cs':=ζ1) (by simp+zetaDelta) rfl (by simp+zetaDelta [List.set_append]))<|.load (show loadA false 1 ζ2 (.ptr B.length (2:Nat))=some (.sl .sh (x.labels.map encP))from load_box (cs:=ζ1) (by simp+zetaDelta) rfl)<|.effY (show Does cfg (.callM (.c (.func (200:FuncId) [])) (List.map .c [.sl .sh (x.labels.map encP),.str key])) ζ2 (.tuple [.str v,.bool true]) ζ2 from g2 _)<|.tt<|.effY (show Does cfg (.appendM (1:Nat) (16:Nat) (.c (.msl kk (0:Nat) (l.length+(1:Nat)) (1:Nat))) (.c (.sl .full [.str v]))) {boxes:=B++[(encN x).cells],toks:=[],loops:=[]:Heap} (.msl (B++[(encN x).cells]).length (0:Nat) (l.length+(1:Nat)+(1:Nat)) (1:Nat)) ζ3 from ap)<|.bin (show binA .add (.int .i64 ↑i) (.int .i64 1)=some (.int .i64 (↑(i+1)))from inc_i (by omega))<|.cutQ k157_0 [(1,.str key),(5,.msl (B++[ζ1]).length (0:Nat) (l.length+(1:Nat)+(1:Nat)) (1:Nat)),(11,.sl .sh (s.nodes.map encN)),(12,.int .i64 (↑s.nodes.length)),(13,.int .i64 (↑(i+1)))] (ζ3) (fun T hT=>(ih' T hT))) (by kernel_rfl)
theorem doms_any(s:St)(key:List UInt8)(hs:s.nodes.length≤1000)(hl:∀n∈s.nodes,n.labels.length<9223372036854775807):GivesF cfg 157 [encSt s,.str key] (.sl .sh ((domsS s key).map .str)):=by
 refine GivesF.run (l157 _ _) ?_
 have h:=dm_loop s key hs hl s.nodes 0 rfl (Nat.zero_le _) [] [(encSt s).cells] 0 (.inl rfl) (by simp)
 have h:∀T,Has T [(1,.str key),(5,.sl .full []),(11,.sl .sh (s.nodes.map encN)),(12,.int .i64 s.nodes.length),(13,.int .i64 (0:Nat))]→Goes cfg a157 k157_0 T ⟨[(encSt s).cells],[],[]⟩ (FinN (valsOf key s.nodes)):=h
 exact goG 60 [] trivial (.len (show lenA false (.sl .sh (s.nodes.map encN))=some (.int .i64 (↑s.nodes.length))from len_map _)<|.cutQ k157_0 [(1,.str key),(5,.sl .full []),(11,.sl .sh (s.nodes.map encN)),(12,.int .i64 (↑s.nodes.length)),(13,.int .i64 0)] ({boxes:=[[.sl .sh (s.nodes.map encN),.sl .sh (s.pods.map encPd),.sl .sh (s.buds.map encB)]],toks:=[],loops:=[]:Heap}) (fun T hT=>(h T hT))) (by kernel_rfl)
end Go.Aa.T
set_option linter.unusedVariables false
set_option linter.unusedSimpArgs false
set_option maxRecDepth 100000
namespace Go.Aa.T
open Go.Aa Go.Proofs
end Go.Aa.T
set_option linter.unusedVariables false
set_option linter.unusedSimpArgs false
set_option maxRecDepth 100000
namespace Go.Aa.T
open Go.Aa Go.Proofs
theorem in2_d0{x:AV}{nb nt:Nat}(h:data0 x=true):in2 nb nt x=true:=in2_data0 h
def Tame(B:List (List AV)):Prop:=∀nb,B.length≤nb→B.all (·.all (in2 nb 0))=true
theorem tame_data{B:List (List AV)}(h:B.all (·.all data0)=true):Tame B:=fun nb _=>List.all_eq_true.2 fun b hb=>List.all_eq_true.2 fun x hx=>in2_d0 (List.all_eq_true.1 (List.all_eq_true.1 h b hb) x hx)
theorem tame_app{B ex:List (List AV)}(h:Tame B)(he:ex.all (·.all data0)=true):Tame (B++ex):=fun nb hn=>by
 rw[List.all_append,h nb (by simp at hn;omega),tame_data he nb (by simp at hn;omega)];rfl
theorem tame_set{B:List (List AV)}{k:Nat}{cs:List AV}(h:Tame B)(hc:cs.all data0=true):Tame (B.set k cs):=fun nb hn=>by
 refine List.all_eq_true.2 fun b hb=> ?_
 rcases List.mem_or_eq_of_mem_set hb with hb|rfl
 ·exact List.all_eq_true.1 (h nb (by simpa using hn)) b hb
 ·exact List.all_eq_true.2 fun x hx=>in2_d0 (List.all_eq_true.1 hc x hx)
theorem trunc_tame{B ex:List (List AV)}{v:AV}(hB:Tame B)(hv:within B.length 0 v=true):trunc B.length 0 v ⟨B++ex,[],[]⟩=⟨B,[],[]⟩:=by
 have h1:=hB B.length (Nat.le_refl _)
 unfold trunc
 simp only[List.take_left,List.length_nil,List.all_nil,Bool.true_and,hv,h1,Bool.and_self,if_true,List.take_zero,ite_self]
theorem does_closure{B ex:List (List AV)}{g:FuncId}{jj:Nat}{x v:AV}(h:lim cfg (.fn g) [x,.ptr jj 0] ⟨B,[],[]⟩=some (.ret v,⟨B++ex,[],[]⟩))(hx:shutA x=x)(hB:Tame B)(hv:within B.length 0 v=true)(hs:shutA v=v):
 Does cfg (.call (.c (.func g [.ptr jj 0])) [.c x]) ⟨B,[],[]⟩ v ⟨B,[],[]⟩∧Does cfg (.callM (.c (.func g [.ptr jj 0])) [.c x]) ⟨B,[],[]⟩ v ⟨B,[],[]⟩:=by
 have e1:=does_callE (cfg:=cfg) (xs:=[x]) (caps:=[.ptr jj 0]) h (by simp[hx]) (by simp[data0])
 have e2:Does cfg (.callM (.c (.func g [.ptr jj 0])) [.c x]) ⟨B,[],[]⟩ (shutA v) (trunc B.length 0 (shutA v) ⟨B++ex,[],[]⟩):=fun T=>by
  simp only[opStep,List.map_cons,List.map_nil,ev]
  simp only[callW,List.all_cons,List.all_nil,data0,Bool.and_false,Bool.false_and,Bool.and_true,Bool.false_eq_true,if_false,List.cons_append,List.nil_append,callE,hx,h]
  rfl
 rw[hs]at e1 e2
 rw[trunc_tame hB hv]at e2
 rw[show(⟨B,[],[]⟩:Heap).boxes.length=B.length from rfl,show(⟨B,[],[]⟩:Heap).toks.length=0 from rfl,trunc_tame hB hv]at e1
 exact⟨e1,e2⟩
abbrev pcs(l:List Pod):List AV:=rowCells (l.map encPd)
theorem encPd_el(l:List Pod):(l.map encPd).all (elOk 11)=true:=List.all_eq_true.2 fun x hx=>by
 obtain⟨j,_,rfl⟩:=List.mem_map.1 hx
 rfl
theorem pcs_len(l:List Pod):(pcs l).length=l.length*11:=by
 have:=rowCells_len (es:=11) (l:=l.map encPd) lenPd
 simpa using this
theorem pcs_data(l:List Pod):(pcs l).all data0=true:=by
 refine List.all_eq_true.2 fun x hx=> ?_
 simp only[pcs,rowCells,List.mem_flatMap,List.mem_map]at hx
 obtain⟨a,⟨p,-,rfl⟩,hx⟩:=hx
 simp only[encPd,AV.cells,List.mem_cons,List.not_mem_nil,or_false]at hx
 rcases hx with rfl|rfl|rfl|rfl|rfl|rfl|rfl|rfl|rfl|rfl|rfl<;>rfl
theorem pc_data(p:Pod):(encPd p).cells.all data0=true:=by rfl
theorem loadP{B:List (List AV)}{kk:Nat}{C:List Pod}{Z:List AV}{i:Nat}{p:Pod}(hk:B[kk]?=some (pcs C++Z))(hp:C[i]?=some p):Does cfg (.load true 11 (.c (.ptr kk (0+i*11)))) ⟨B,[],[]⟩ (encPd p) ⟨B,[],[]⟩:=fun T=>by
 obtain⟨h1,h2⟩:=cells_at (es:=11) (i:=i) (encPd_el C) (x:=encPd p) (by simp[hp])
 change((pcs C).drop (i*11)).take 11=_ at h1
 change _≤(pcs C).length at h2
 have:loadA true 11 ⟨B,[],[]⟩ (.ptr kk (0+i*11))=some (encPd p):=by
  simp only[loadA,hk,Nat.zero_add]
  rw[if_pos (by rw[List.length_append];omega),List.drop_append_of_le_length (by omega),List.take_append_of_le_length (by rw[List.length_drop];omega),h1];rfl
 simp only[opStep,ev,this]
theorem pcs_set:∀(C:List Pod)(j:Nat)(p:Pod),j<C.length→(pcs C).take (j*11)++(encPd p).cells++(pcs C).drop (j*11+11)=pcs (C.set j p)
 |[],j,p,h=>by simp at h
 |c::C,0,p,h=>by
  have e1:pcs (c::C)=(encPd c).cells++pcs C:=by simp[pcs,rowCells]
  have e2:pcs ((c::C).set 0 p)=(encPd p).cells++pcs C:=by simp[pcs,rowCells]
  rw[e1,e2]
  have e3:(encPd c).cells.length=11:=rfl
  rw[Nat.zero_mul,List.take_zero,List.nil_append,Nat.zero_add,List.drop_append_of_le_length (by omega),List.drop_eq_nil_of_le (by omega),List.nil_append]
 |c::C,j+1,p,h=>by
  have e1:pcs (c::C)=(encPd c).cells++pcs C:=by simp[pcs,rowCells]
  have e2:pcs ((c::C).set (j+1) p)=(encPd c).cells++pcs (C.set j p):=by simp[pcs,rowCells]
  have ih:=pcs_set C j p (by simpa using h)
  have e3:(encPd c).cells.length=11:=rfl
  rw[e1,e2,←ih,List.take_append,e3,List.take_of_length_le (by rw[e3];omega),show(j+1)*11-11=j*11 by omega,List.drop_append,e3,List.drop_eq_nil_of_le (by rw[e3];omega),List.nil_append,show(j+1)*11+11-11=j*11+11 by omega]
  simp only[List.append_assoc]
theorem storeP{B:List (List AV)}{kk:Nat}{C:List Pod}{j:Nat}(p:Pod)(hk:B[kk]?=some (pcs C))(hj:j<C.length):Does cfg (.store 11 (.c (.ptr kk (0+j*11))) (.c (encPd p))) ⟨B,[],[]⟩ .undef ⟨B.set kk (pcs (C.set j p)),[],[]⟩:=fun T=>by
 have hl:=pcs_len C
 have e3:(encPd p).cells.length=11:=rfl
 have:storeA 11 ⟨B,[],[]⟩ (.ptr kk (0+j*11)) (encPd p)=some ⟨B.set kk (pcs (C.set j p)),[],[]⟩:=by
  simp only[storeA,hk,Nat.zero_add]
  rw[if_pos ⟨by omega,rfl,rfl,by omega⟩,paste_spec _ _ _ (by omega),e3,pcs_set C j p hj]
 simp only[opStep,ev,this]
theorem pred_any{B:List (List AV)}{jj:Nat}{nm:List UInt8}(hj:B[jj]?=some [.str nm])(hB:Tame B)(p:Pod):
 Does cfg (.call (.c (.func 91 [.ptr jj 0])) [.c (encPd p)]) ⟨B,[],[]⟩ (.bool (p.name==nm)) ⟨B,[],[]⟩∧Does cfg (.callM (.c (.func 91 [.ptr jj 0])) [.c (encPd p)]) ⟨B,[],[]⟩ (.bool (p.name==nm)) ⟨B,[],[]⟩:=by
 have hlt:=(List.getElem?_eq_some_iff.1 hj).1
 have l1:Does cfg (.load false 1 (.c (.ptr B.length 0))) ⟨B++[(encPd p).cells],[],[]⟩ (.str p.name) ⟨B++[(encPd p).cells],[],[]⟩:=fun T=>by
  have:loadA false 1 ⟨B++[(encPd p).cells],[],[]⟩ (.ptr B.length 0)=some (.str p.name):=by
   simp only[loadA,List.getElem?_concat_length];rfl
  simp only[opStep,ev,this]
 have l2:Does cfg (.load false 1 (.c (.ptr jj 0))) ⟨B++[(encPd p).cells],[],[]⟩ (.str nm) ⟨B++[(encPd p).cells],[],[]⟩:=fun T=>by
  have:loadA false 1 ⟨B++[(encPd p).cells],[],[]⟩ (.ptr jj 0)=some (.str nm):=by
   simp only[loadA,List.getElem?_append_left hlt,hj];rfl
  simp only[opStep,ev,this]
 refine does_closure (ex:=[(encPd p).cells]) ?_ rfl hB rfl rfl
 rw[l91]
 have key:Goes cfg a91 [.c c91] (initEnv [encPd p,.ptr jj 0]) ⟨B,[],[]⟩ (fun r=>r=(.ret (.bool (p.name==nm)),⟨B++[(encPd p).cells],[],[]⟩)):=by
  exact let ζ1:Heap:={boxes:=B++[(encPd p).cells],toks:=[],loops:=[]:Heap};goG 60 [] trivial (.effY (show Does cfg (.load false (1:Nat) (.c (.ptr B.length (0:Nat)))) ζ1 (.str p.name) ζ1 from l1)<|.effY (show Does cfg (.load false (1:Nat) (.c (.ptr jj (0:Nat)))) ζ1 (.str nm) ζ1 from l2)<|.fin ((.ret (.bool (p.name==nm)),{boxes:=B++[[AV.str p.name,.str p.owner,.int .i64 p.prio,.sl .sh (p.need.map encA),.sl .sh (p.labels.map encP),.sl .sh (p.sel.map encM),.sl .sh (p.tols.map encL),.str p.key,.int .i64 p.most,.str p.node,.bool p.hold]],toks:=[],loops:=[]:Heap})) rfl) (by kernel_rfl)
 obtain⟨r,h,rfl⟩:=key
 exact h
def idxG(nm:List UInt8)(i:Int):List Pod→Int
 |[]=> -1
 |x::l=>if x.name=nm then i else idxG nm (i+1) l
theorem index_loop{B:List (List AV)}{jj kk n:Nat}{nm:List UInt8}{C:List Pod}(hj:B[jj]?=some [.str nm])(hk:B[kk]?=some (pcs C))(hB:Tame B)(hC:C.length=n)(hn:n<9223372036854775807):∀(post:List Pod)(i:Nat)(hd:C.drop i=post)(T:Env)
 (hT:Has T [(0,.msl kk 0 n 11),(1,.func 91 [.ptr jj 0]),(7,.int .i64 n),(8,.int .i64 i)]),
 Goes cfg a162 k162_0 T ⟨B,[],[]⟩ (fun r=>r=(.ret (.int .i64 (idxG nm i post)),⟨B,[],[]⟩)):=by
 intro post
 induction post with
 |nil=>
  intro i hd T hT
  have hge:=drop_ge hd
  have c1:binA .lss (.int .i64 (i:Nat)) (.int .i64 (n:Nat))=some (.bool false):=lssF (by omega)
  exact goG 60 _ hT (.no (decide_eq_false (p:=(↑i:Int)<(↑n:Int)) (by omega))<|.fin ((.ret (.int .i64 (-1:Int)),{boxes:=B,toks:=[],loops:=[]:Heap})) rfl) (by kernel_rfl)
 |cons x post ih=>
  intro i hd T hT
  have hlt:=drop_lt hd
  have hnx:=drop_next hd
  have hx:=drop_at hd
  have c1:binA .lss (.int .i64 (i:Nat)) (.int .i64 (n:Nat))=some (.bool true):=lssT (by omega)
  have ld:=loadP (Z:=[]) (by rw[List.append_nil];exact hk) hx
  have i1:idxA 11 (.msl kk 0 n 11) (.int .i64 (i:Nat))=some (.ptr kk (0+i*11)):=idx_msl (by omega)
  have pr:=(pred_any hj hB x).1
  have inc:=inc_i (i:=i) (by omega)
  have ih':=ih (i+1) hnx
  have e:idxG nm i (x::post)=if x.name=nm then(i:Int)else idxG nm (((i+1:Nat):Int)) post:=rfl
  rw[e]
  by_cases h:x.name=nm
  ·rw[show(x.name==nm)=true by simpa using h]at pr
   rw[if_pos h]
   exact let ζ1:Heap:={boxes:=B,toks:=[],loops:=[]:Heap};goG 60 _ hT (.yes (decide_eq_true (p:=(↑i:Int)<(↑n:Int)) (by omega))<|.idx (show idxA 11 (.msl kk (0:Nat) n (11:Nat)) (.int .i64 ↑i)=some (.ptr kk ((0:Nat)+i*(11:Nat)))from i1)<|.effY (show Does cfg (.load true (11:Nat) (.c (.ptr kk ((0:Nat)+i*(11:Nat))))) ζ1 (encPd x) ζ1 from ld)<|.effY (show Does cfg (.call (.c (.func (91:FuncId) [.ptr jj (0:Nat)])) [.c (encPd x)]) ζ1 (.bool true) ζ1 from pr)<|.tt<|.fin ((.ret (.int .i64 ↑i),ζ1)) rfl) (by kernel_rfl)
  ·rw[show(x.name==nm)=false by simpa using h]at pr
   rw[if_neg h]
   exact let ζ1:Heap:={boxes:=B,toks:=[],loops:=[]:Heap};goG 60 _ hT (.yes (decide_eq_true (p:=(↑i:Int)<(↑n:Int)) (by omega))<|.idx (show idxA 11 (.msl kk (0:Nat) n (11:Nat)) (.int .i64 ↑i)=some (.ptr kk ((0:Nat)+i*(11:Nat)))from i1)<|.effY (show Does cfg (.load true (11:Nat) (.c (.ptr kk ((0:Nat)+i*(11:Nat))))) ζ1 (encPd x) ζ1 from ld)<|.effY (show Does cfg (.call (.c (.func (91:FuncId) [.ptr jj (0:Nat)])) [.c (encPd x)]) ζ1 (.bool false) ζ1 from pr)<|.ff<|.bin (show binA .add (.int .i64 ↑i) (.int .i64 1)=some (.int .i64 (↑(i+1)))from inc)<|.cutQ k162_0 [(0,.msl kk (0:Nat) n (11:Nat)),(1,.func (91:Nat) [.ptr jj (0:Nat)]),(7,.int .i64 ↑n),(8,.int .i64 (↑(i+1)))] (ζ1) (fun T hT=>(ih' T hT))) (by kernel_rfl)
theorem index_any{B:List (List AV)}{jj kk n:Nat}{nm:List UInt8}{C:List Pod}(hj:B[jj]?=some [.str nm])(hk:B[kk]?=some (pcs C))(hB:Tame B)(hC:C.length=n)(hn:n<9223372036854775807):
 Does cfg (.callM (.c (.func 162 [])) [.c (.msl kk 0 n 11),.c (.func 91 [.ptr jj 0])]) ⟨B,[],[]⟩ (.int .i64 (idxG nm 0 C)) ⟨B,[],[]⟩:=by
 have key:Goes cfg a162 [.c c162] (initEnv [.msl kk 0 n 11,.func 91 [.ptr jj 0]]) ⟨B,[],[]⟩ (fun r=>r=(.ret (.int .i64 (idxG nm 0 C)),⟨B,[],[]⟩)):=by
  have h1:=index_loop hj hk hB hC hn C 0 rfl
  exact goG 60 [] trivial (.len (rfl:lenA false (.msl kk (0:Nat) n (11:Nat))=some (.int .i64 ↑n))<|.cutQ k162_0 [(0,.msl kk (0:Nat) n (11:Nat)),(1,.func (91:Nat) [.ptr jj (0:Nat)]),(7,.int .i64 ↑n),(8,.int .i64 0)] ({boxes:=B,toks:=[],loops:=[]:Heap}) (fun T hT=>(h1 T hT))) (by kernel_rfl)
 obtain⟨r,h,rfl⟩:=key
 have h':lim cfg (.fn 162) [.msl kk 0 n 11,.func 91 [.ptr jj 0]] ⟨B,[],[]⟩=some (.ret (.int .i64 (idxG nm 0 C)),⟨B,[],[]⟩):=by rw[l162];exact h
 have hd:=does_callM (xs:=[.msl kk 0 n 11,.func 91 [.ptr jj 0]]) h' rfl rfl
 have e:=trunc_tame (ex:=[]) (v:=.int .i64 (idxG nm 0 C)) hB rfl
 rw[List.append_nil]at e
 rw[show(⟨B,[],[]⟩:Heap).boxes.length=B.length from rfl,show(⟨B,[],[]⟩:Heap).toks.length=0 from rfl,show shutA (.int .i64 (idxG nm 0 C))=.int .i64 (idxG nm 0 C)from rfl,e]at hd
 exact hd
end Go.Aa.T
set_option linter.unusedVariables false
set_option linter.unusedSimpArgs false
set_option maxRecDepth 100000
namespace Go.Aa.T
open Go.Aa Go.Proofs
abbrev zpc:List AV:=[.str [],.str [],.int .i64 0,.sl .full [],.sl .full [],.sl .full [],.sl .full [],.str [],.int .i64 0,.str [],.bool false]
def offP(nm:List UInt8)(l:List Pod):List Pod:=l.filter fun p=> !(p.name==nm)
theorem store_last{B:List (List AV)}{z:List AV}(p:Pod)(hz:z.length=11):Does cfg (.store 11 (.c (.ptr B.length 0)) (.c (encPd p))) ⟨B++[z],[],[]⟩ .undef ⟨B++[(encPd p).cells],[],[]⟩:=fun T=>by
 have:storeA 11 ⟨B++[z],[],[]⟩ (.ptr B.length 0) (encPd p)=some ⟨B++[(encPd p).cells],[],[]⟩:=by
  simp only[storeA,List.getElem?_concat_length]
  rw[if_pos ⟨by omega,rfl,rfl,by omega⟩,paste_spec _ _ _ (by rw[show(encPd p).cells.length=11 from rfl];omega),List.take_zero,List.nil_append,show(encPd p).cells.length=11 from rfl,List.drop_eq_nil_of_le (by omega),List.append_nil,List.set_append_right _ _ (Nat.le_refl _),Nat.sub_self]
  rfl
 simp only[opStep,ev,this]
theorem load_last{B:List (List AV)}(p:Pod):Does cfg (.load true 11 (.c (.ptr B.length 0))) ⟨B++[(encPd p).cells],[],[]⟩ (encPd p) ⟨B++[(encPd p).cells],[],[]⟩:=fun T=>by
 have:loadA true 11 ⟨B++[(encPd p).cells],[],[]⟩ (.ptr B.length 0)=some (encPd p):=by
  simp only[loadA,List.getElem?_concat_length];rfl
 simp only[opStep,ev,this]
section
variable(B0:List (List AV))(kk jj n:Nat)(nm:List UInt8)
theorem pcs_app(a b:List Pod):pcs (a++b)=pcs a++pcs b:=by simp[pcs,rowCells]
structure DH(C:List Pod)(B:List (List AV)):Prop where
 row:B[kk]?=some (pcs C)
 nme:B[jj]?=some [.str nm]
 tame:Tame B
 from0:∃ex,B=B0.set kk (pcs C)++ex
variable{B0 kk jj n nm}
theorem DH.snoc{C:List Pod}{B:List (List AV)}(h:DH B0 kk jj nm C B){c:List AV}(hc:c.all data0=true):DH B0 kk jj nm C (B++[c]):=by
 obtain⟨ex,e⟩:=h.from0
 have h1:=(List.getElem?_eq_some_iff.1 h.row).1
 have h2:=(List.getElem?_eq_some_iff.1 h.nme).1
 exact⟨by rw[List.getElem?_append_left h1];exact h.row,by rw[List.getElem?_append_left h2];exact h.nme,tame_app h.tame (by simp[hc]),ex++[c],by rw[e,List.append_assoc]⟩
theorem DH.put{C:List Pod}{B:List (List AV)}(h:DH B0 kk jj nm C B)(hkj:kk≠jj)(hk:kk<B0.length)(C':List Pod):DH B0 kk jj nm C' (B.set kk (pcs C')):=by
 obtain⟨ex,e⟩:=h.from0
 have h1:=(List.getElem?_eq_some_iff.1 h.row).1
 refine⟨List.getElem?_set_self h1,by rw[List.getElem?_set_ne hkj];exact h.nme,tame_set h.tame (pcs_data C'),ex,?_⟩
 rw[e,List.set_append_left _ _ (by simpa using hk),List.set_set]
def RetD(B0:List (List AV))(kk n:Nat)(l:List Pod)(r:ARes×Heap):Prop:=∃Z ex,r=(.ret (.msl kk 0 l.length 11),⟨B0.set kk (pcs l++Z)++ex,[],[]⟩)∧Z.all data0=true∧(pcs l++Z).length=n*11
theorem delete_loop(hn:n<9223372036854775807)(hkj:kk≠jj)(hk0:kk<B0.length):∀(post:List Pod)(i:Nat)(U C:List Pod)(B:List (List AV))(hB:DH B0 kk jj nm C B)(hC:C.length=n)(hd:C.drop i=post)(hi:i≤n)(hU:C.take U.length=U)(hl:U.length<i)(T:Env)
 (hT:Has T [(0,.msl kk 0 n 11),(1,.func 91 [.ptr jj 0]),(5,.int .i64 U.length),(6,.int .i64 i)]),
 Goes cfg a89 k89_0 T ⟨B,[],[]⟩ (RetD B0 kk n (U++offP nm post)):=by
 intro post
 induction post with
 |nil=>
  intro i U C B hB hC hd hi hU hl T hT
  have hge:=drop_ge hd
  have hUn:U.length<n:=by omega
  have c1:binA .lss (.int .i64 (i:Nat)) (.int .i64 (n:Nat))=some (.bool false):=lssF (by omega)
  have s1:sliceA 11 (.msl kk 0 n 11) (some (.int .i64 (U.length:Nat))) none none=some (.msl kk (U.length*11) (n-U.length) 11):=by
   simp only[sliceA,sliceM,boundA]
   rw[if_neg (by omega)]
   rw[if_pos ⟨by omega,by omega⟩]
   simp only[Int.toNat_natCast]
   rw[if_pos (by omega)]
   simp
  have s2:sliceA 11 (.msl kk 0 n 11) none (some (.int .i64 (U.length:Nat))) none=some (.msl kk 0 U.length 11):=by
   simp only[sliceA,sliceM,boundA]
   rw[if_neg (by omega)]
   rw[if_pos ⟨by omega,by omega⟩]
   simp only[Int.toNat_natCast]
   rw[if_pos (by omega)]
   simp
  have hz:((List.replicate (n-U.length) zpc).flatten).length=(n-U.length)*11:=by simp
  have hzd:((List.replicate (n-U.length) zpc).flatten).all data0=true:=by
   refine List.all_eq_true.2 fun x hx=> ?_
   obtain⟨l,hl1,hl2⟩:=List.mem_flatten.1 hx
   rw[(List.mem_replicate.1 hl1).2]at hl2
   exact List.all_eq_true.1 (show zpc.all data0=true from rfl) x hl2
  have hpl:=pcs_len C
  have hpu:=pcs_len U
  have hpt:(pcs C).take (U.length*11)=pcs U:=by
   have e:C=U++C.drop U.length:=by
    have:=(List.take_append_drop U.length C).symm
    rwa [hU]at this
   rw[e,pcs_app,List.take_left' hpu]
  have cl:Does cfg (.clearM zpc (.c (.msl kk (U.length*11) (n-U.length) 11))) ⟨B,[],[]⟩ (.tuple []) ⟨B.set kk (pcs U++(List.replicate (n-U.length) zpc).flatten),[],[]⟩:=fun T=>by
   have:clearA zpc ⟨B,[],[]⟩ (.msl kk (U.length*11) (n-U.length) 11)=some ⟨B.set kk (pcs U++(List.replicate (n-U.length) zpc).flatten),[],[]⟩:=by
    simp only[clearA,hB.row]
    rw[if_pos ⟨by omega,rfl,by omega,by omega,rfl⟩,paste_spec _ _ _ (by omega),hpt,List.drop_eq_nil_of_le (by omega),List.append_nil]
   simp only[opStep,ev,this]
  obtain⟨ex,he⟩:=hB.from0
  have hfin:B.set kk (pcs U++(List.replicate (n-U.length) zpc).flatten)=B0.set kk (pcs U++(List.replicate (n-U.length) zpc).flatten)++ex:=by
   rw[he,List.set_append_left _ _ (by simpa using hk0),List.set_set]
  rw[show offP nm []=[]from rfl,List.append_nil]
  generalize(List.replicate (n-U.length) zpc).flatten=Z at cl hz hzd hfin
  rw[hfin]at cl
  have out:RetD B0 kk n U (.ret (.msl kk 0 U.length 11),⟨B0.set kk (pcs U++Z)++ex,[],[]⟩):=⟨Z,ex,rfl,hzd,by rw[List.length_append,hpu,hz];omega⟩
  exact let ζ1:Heap:={boxes:=B0.set kk (pcs U++Z)++ex,toks:=[],loops:=[]:Heap};goG 60 _ hT (.len (rfl:lenA false (.msl kk (0:Nat) n (11:Nat))=some (.int .i64 ↑n))<|.no (decide_eq_false (p:=(↑i:Int)<(↑n:Int)) (by omega))<|.slice (show sliceA (11:Nat) (.msl kk (0:Nat) n (11:Nat)) (some (.int .i64 (↑U.length))) none none=some (.msl kk (U.length*(11:Nat)) (n-U.length) (11:Nat))from s1)<|.effY (show Does cfg (.clearM zpc (.c (.msl kk (U.length*(11:Nat)) (n-U.length) (11:Nat)))) {boxes:=B,toks:=[],loops:=[]:Heap} (.tuple []) ζ1 from cl)<|.slice (show sliceA (11:Nat) (.msl kk (0:Nat) n (11:Nat)) none (some (.int .i64 (↑U.length))) none=some (.msl kk (0:Nat) U.length (11:Nat))from s2)<|.fin ((.ret (.msl kk (0:Nat) U.length (11:Nat)),ζ1)) (by exact out)) (by kernel_rfl)
 |cons x post ih=>
  intro i U C B hB hC hd hi hU hl T hT
  have hlt:=drop_lt hd
  have hnx:=drop_next hd
  have hx:=drop_at hd
  have c1:binA .lss (.int .i64 (i:Nat)) (.int .i64 (n:Nat))=some (.bool true):=lssT (by omega)
  have ld:=loadP (Z:=[]) (by rw[List.append_nil];exact hB.row) hx
  have i1:idxA 11 (.msl kk 0 n 11) (.int .i64 (i:Nat))=some (.ptr kk (0+i*11)):=idx_msl (by omega)
  have s1:=store_last (B:=B) (z:=zpc) x rfl
  have g1:=load_last (B:=B) x
  have hB1:=hB.snoc (pc_data x)
  have pr:=(pred_any hB1.nme hB1.tame x).2
  have inc:=inc_i (i:=i) (by omega)
  by_cases h:x.name=nm
  ·have e:offP nm (x::post)=offP nm post:=by simp[offP,h]
   rw[e]
   rw[show(x.name==nm)=true by simpa using h]at pr
   have ih':=ih (i+1) U C (B++[(encPd x).cells]) hB1 hC hnx (by omega) hU (by omega)
   exact let ζ1:Heap:={boxes:=B++[(encPd x).cells],toks:=[],loops:=[]:Heap};let ζ2:Heap:={boxes:=B,toks:=[],loops:=[]:Heap};goG 90 _ hT (.len (rfl:lenA false (.msl kk (0:Nat) n (11:Nat))=some (.int .i64 ↑n))<|.yes (decide_eq_true (p:=(↑i:Int)<(↑n:Int)) (by omega))<|.idx (show idxA 11 (.msl kk (0:Nat) n (11:Nat)) (.int .i64 ↑i)=some (.ptr kk ((0:Nat)+i*(11:Nat)))from i1)<|.effY (show Does cfg (.load true (11:Nat) (.c (.ptr kk ((0:Nat)+i*(11:Nat))))) ζ2 (encPd x) ζ2 from ld)<|.effY (show Does cfg (.store (11:Nat) (.c (.ptr B.length (0:Nat))) (.c (encPd x))) {boxes:=B++[zpc],toks:=[],loops:=[]:Heap} .undef ζ1 from s1)<|.effY (show Does cfg (.load true (11:Nat) (.c (.ptr B.length (0:Nat)))) ζ1 (encPd x) ζ1 from g1)<|.effY (show Does cfg (.callM (.c (.func (91:FuncId) [.ptr jj (0:Nat)])) [.c (encPd x)]) ζ1 (.bool true) ζ1 from pr)<|.ff<|.bin (show binA .add (.int .i64 ↑i) (.int .i64 1)=some (.int .i64 (↑(i+1)))from inc)<|.cutQ k89_0 [(0,.msl kk (0:Nat) n (11:Nat)),(1,.func (91:Nat) [.ptr jj (0:Nat)]),(5,.int .i64 (↑U.length)),(6,.int .i64 (↑(i+1)))] ({boxes:=B++[[AV.str x.name,.str x.owner,.int .i64 x.prio,.sl .sh (x.need.map encA),.sl .sh (x.labels.map encP),.sl .sh (x.sel.map encM),.sl .sh (x.tols.map encL),.str x.key,.int .i64 x.most,.str x.node,.bool x.hold]],toks:=[],loops:=[]:Heap}) (fun T hT=>(ih' T hT))) (by kernel_rfl)
  ·have e:offP nm (x::post)=x::offP nm post:=by simp[offP,h]
   rw[e]
   rw[show(x.name==nm)=false by simpa using h]at pr
   have i2:idxA 11 (.msl kk 0 n 11) (.int .i64 (U.length:Nat))=some (.ptr kk (0+U.length*11)):=idx_msl (by omega)
   have st:=storeP x hB1.row (j:=U.length) (by omega)
   have inc2:=inc_i (i:=U.length) (by omega)
   have ih':=ih (i+1) (U++[x]) (C.set U.length x) _ (hB1.put hkj hk0 (C.set U.length x)) (by simpa using hC) (by rw[List.drop_set_of_lt (by omega)];exact hnx) (by omega) (by
    rw[List.length_append,List.length_singleton,List.take_add_one,List.getElem?_set_self (by omega),List.take_set_of_le (Nat.le_refl _),hU]
    rfl) (by simp;omega)
   rw[List.append_assoc]at ih'
   have el:((U++[x]).length:Int)=((U.length+1:Nat):Int):=by simp
   rw[el]at ih'
   exact let ζ1:Heap:={boxes:=B++[(encPd x).cells],toks:=[],loops:=[]:Heap};let ζ2:Heap:={boxes:=(B++[(encPd x).cells]).set kk (pcs (C.set U.length x)),toks:=[],loops:=[]:Heap};let ζ3:Heap:={boxes:=B,toks:=[],loops:=[]:Heap};goG 90 _ hT (.len (rfl:lenA false (.msl kk (0:Nat) n (11:Nat))=some (.int .i64 ↑n))<|.yes (decide_eq_true (p:=(↑i:Int)<(↑n:Int)) (by omega))<|.idx (show idxA 11 (.msl kk (0:Nat) n (11:Nat)) (.int .i64 ↑i)=some (.ptr kk ((0:Nat)+i*(11:Nat)))from i1)<|.effY (show Does cfg (.load true (11:Nat) (.c (.ptr kk ((0:Nat)+i*(11:Nat))))) ζ3 (encPd x) ζ3 from ld)<|.effY (show Does cfg (.store (11:Nat) (.c (.ptr B.length (0:Nat))) (.c (encPd x))) {boxes:=B++[zpc],toks:=[],loops:=[]:Heap} .undef ζ1 from s1)<|.effY (show Does cfg (.load true (11:Nat) (.c (.ptr B.length (0:Nat)))) ζ1 (encPd x) ζ1 from g1)<|.effY (show Does cfg (.callM (.c (.func (91:FuncId) [.ptr jj (0:Nat)])) [.c (encPd x)]) ζ1 (.bool false) ζ1 from pr)<|.tt<|.effY (show Does cfg (.load true (11:Nat) (.c (.ptr B.length (0:Nat)))) ζ1 (encPd x) ζ1 from g1)<|.idx (show idxA 11 (.msl kk (0:Nat) n (11:Nat)) (.int .i64 (↑U.length))=some (.ptr kk ((0:Nat)+U.length*(11:Nat)))from i2)<|.effY (show Does cfg (.store (11:Nat) (.c (.ptr kk ((0:Nat)+U.length*(11:Nat)))) (.c (encPd x))) ζ1 .undef ζ2 from st)<|.bin (show binA .add (.int .i64 (↑U.length)) (.int .i64 1)=some (.int .i64 (↑(U.length+(1:Nat)):Int))from inc2)<|.bin (show binA .add (.int .i64 ↑i) (.int .i64 1)=some (.int .i64 (↑(i+1)))from inc)<|.cutQ k89_0 [(0,.msl kk (0:Nat) n (11:Nat)),(1,.func (91:Nat) [.ptr jj (0:Nat)]),(5,.int .i64 (↑(U.length+(1:Nat)):Int)),(6,.int .i64 (↑(i+1)))] (ζ2) (fun T hT=>(ih' T hT))) (by kernel_rfl)
end
end Go.Aa.T
set_option linter.unusedVariables false
set_option linter.unusedSimpArgs false
set_option maxRecDepth 100000
namespace Go.Aa.T
open Go.Aa Go.Proofs
theorem idx_spec(nm:List UInt8):∀(l:List Pod)(i:Nat),(idxG nm i l= -1∧offP nm l=l)∨∃q,idxG nm i l=((i+q:Nat):Int)∧q<l.length∧offP nm l=l.take q++offP nm (l.drop (q+1))
 |[],i=>.inl ⟨rfl,rfl⟩
 |x::l,i=>by
  have e:idxG nm i (x::l)=if x.name=nm then(i:Int)else idxG nm ((i+1:Nat):Int) l:=rfl
  rw[e]
  by_cases h:x.name=nm
  ·rw[if_pos h]
   exact .inr ⟨0,by simp,by simp,by simp[offP,h]⟩
  ·rw[if_neg h]
   have e2:offP nm (x::l)=x::offP nm l:=by simp[offP,h]
   rw[e2]
   rcases idx_spec nm l (i+1)with⟨h1,h2⟩|⟨q,h1,h2,h3⟩
   ·exact .inl ⟨h1,by rw[h2]⟩
   ·exact .inr ⟨q+1,by rw[h1];congr 1;omega,by simp;omega,by rw[h3];rfl⟩
theorem trunc_all{B:List (List AV)}{ex:List (List AV)}{nb:Nat}{v:AV}(hl:B.length=nb)(hB:Tame B)(hv:within nb 0 v=true):trunc nb 0 v ⟨B++ex,[],[]⟩=⟨B,[],[]⟩:=by
 subst hl;exact trunc_tame hB hv
theorem delete_any{B:List (List AV)}{kk jj n:Nat}{nm:List UInt8}{C:List Pod}(hn:n<9223372036854775807)(hkj:kk≠jj)(hk:B[kk]?=some (pcs C))(hj:B[jj]?=some [.str nm])(hB:Tame B)(hC:C.length=n):
 ∃Z,Z.all data0=true∧(pcs (offP nm C)++Z).length=n*11∧Does cfg (.callM (.c (.func 89 [])) [.c (.msl kk 0 n 11),.c (.func 91 [.ptr jj 0])]) ⟨B,[],[]⟩ (.msl kk 0 (offP nm C).length 11) ⟨B.set kk (pcs (offP nm C)++Z),[],[]⟩:=by
 have hk0:=(List.getElem?_eq_some_iff.1 hk).1
 have hi:=index_any hj hk hB hC hn
 have hself:B.set kk (pcs C)=B:=by
  obtain⟨h1,h2⟩:=List.getElem?_eq_some_iff.1 hk
  rw[←h2];exact List.set_getElem_self h1
 have hDH:DH B kk jj nm C B:=⟨hk,hj,hB,[],by rw[hself,List.append_nil]⟩
 have key:Goes cfg a89 [.c c89] (initEnv [.msl kk 0 n 11,.func 91 [.ptr jj 0]]) ⟨B,[],[]⟩ (RetD B kk n (offP nm C)):=by
  have hsp:(idxG nm 0 C= -1∧offP nm C=C)∨∃q,idxG nm 0 C=((0+q:Nat):Int)∧q<C.length∧offP nm C=C.take q++offP nm (C.drop (q+1)):=idx_spec nm C 0
  rcases hsp with⟨h1,h2⟩|⟨q,h1,h2,h3⟩
  ·rw[h1]at hi
   rw[h2]
   have out:RetD B kk n C (.ret (.msl kk 0 n 11),⟨B,[],[]⟩):=⟨[],[],by rw[hC,List.append_nil,List.append_nil,hself],rfl,by rw[List.append_nil,pcs_len,hC]⟩
   exact let ζ1:Heap:={boxes:=B,toks:=[],loops:=[]:Heap};goG 60 [] trivial (.effCM [.msl kk (0:Nat) n (11:Nat),.func (91:Nat) [.ptr jj (0:Nat)]] (show Does cfg (.callM (.c (.func (162:FuncId) [])) [.c (.msl kk (0:Nat) n (11:Nat)),.c (.func (91:FuncId) [.ptr jj (0:Nat)])]) ζ1 (.int .i64 (-1:Int)) ζ1 from hi) rfl<|.tt<|.fin ((.ret (.msl kk (0:Nat) n (11:Nat)),ζ1)) (by exact out)) (by kernel_rfl)
  ·rw[Nat.zero_add]at h1
   rw[h1]at hi
   rw[h3]
   have hl:(C.take q).length=q:=by rw[List.length_take];omega
   have h2':=delete_loop hn hkj hk0 (C.drop (q+1)) (q+1) (C.take q) C B hDH hC rfl (by omega) (by rw[hl]) (by omega)
   rw[hl]at h2'
   have inc:=inc_i (i:=q) (by omega)
   have ne1:binA .eql (.int .i64 (q:Nat)) (.int .i64 (-1))=some (.bool false):=eqlF (by omega)
   exact let ζ1:Heap:={boxes:=B,toks:=[],loops:=[]:Heap};goG 60 [] trivial (.effCM [.msl kk (0:Nat) n (11:Nat),.func (91:Nat) [.ptr jj (0:Nat)]] (show Does cfg (.callM (.c (.func (162:FuncId) [])) [.c (.msl kk (0:Nat) n (11:Nat)),.c (.func (91:FuncId) [.ptr jj (0:Nat)])]) ζ1 (.int .i64 ↑q) ζ1 from hi) rfl<|.ff<|.bin (show binA .add (.int .i64 ↑q) (.int .i64 1)=some (.int .i64 (↑(q+(1:Nat)):Int))from inc)<|.cutQ k89_0 [(0,.msl kk (0:Nat) n (11:Nat)),(1,.func (91:Nat) [.ptr jj (0:Nat)]),(5,.int .i64 ↑q),(6,.int .i64 (↑(q+(1:Nat)):Int))] (ζ1) (fun T hT=>(h2' T hT))) (by kernel_rfl)
 obtain⟨r,h,Z,ex,rfl,hZ,hlen⟩:=key
 refine⟨Z,hZ,hlen,?_⟩
 have h':lim cfg (.fn 89) [.msl kk 0 n 11,.func 91 [.ptr jj 0]] ⟨B,[],[]⟩=some (.ret (.msl kk 0 (offP nm C).length 11),⟨B.set kk (pcs (offP nm C)++Z)++ex,[],[]⟩):=by rw[l89];exact h
 have hd:=does_callM (xs:=[.msl kk 0 n 11,.func 91 [.ptr jj 0]]) h' rfl rfl
 have hw:within B.length 0 (.msl kk 0 (offP nm C).length 11)=true:=by simp[within,in2,in1,in0,hk0]
 have e:=trunc_all (ex:=ex) (nb:=B.length) (by simp) (tame_set (k:=kk) hB (by rw[List.all_append,pcs_data,hZ];rfl:(pcs (offP nm C)++Z).all data0=true)) hw
 rw[show(⟨B,[],[]⟩:Heap).boxes.length=B.length from rfl,show(⟨B,[],[]⟩:Heap).toks.length=0 from rfl,show shutA (.msl kk 0 (offP nm C).length 11)=.msl kk 0 (offP nm C).length 11 from rfl,e]at hd
 exact hd
theorem delete_nil{B:List (List AV)}{jj:Nat}(hB:Tame B):Does cfg (.callM (.c (.func 89 [])) [.c (.sl .nil []),.c (.func 91 [.ptr jj 0])]) ⟨B,[],[]⟩ (.sl .nil []) ⟨B,[],[]⟩:=by
 have lp:∀(T:Env)(hT:Has T [(7,.int .i64 ((([]:List AV).length:Nat):Int)),(8,.int .i64 0)]),Goes cfg a162 k162_0 T ⟨B,[],[]⟩ (fun r=>r=(.ret (.int .i64 (-1)),⟨B,[],[]⟩)):=by
  intro T hT
  exact goG 60 _ hT (.ff<|.fin ((.ret (.int .i64 (-1:Int)),{boxes:=B,toks:=[],loops:=[]:Heap})) rfl) (by kernel_rfl)
 have k1:Goes cfg a162 [.c c162] (initEnv [.sl .nil [],.func 91 [.ptr jj 0]]) ⟨B,[],[]⟩ (fun r=>r=(.ret (.int .i64 (-1)),⟨B,[],[]⟩)):=by
  exact goG 60 [] trivial (.len (show lenA false (.sl .nil [])=some (.int .i64 (↑[].length:Int))from len_sl _ _)<|.cutQ k162_0 [(7,.int .i64 (↑[].length:Int)),(8,.int .i64 0)] ({boxes:=B,toks:=[],loops:=[]:Heap}) (fun T hT=>(lp T hT))) (by kernel_rfl)
 obtain⟨r,h,rfl⟩:=k1
 have h':lim cfg (.fn 162) [.sl .nil [],.func 91 [.ptr jj 0]] ⟨B,[],[]⟩=some (.ret (.int .i64 (-1)),⟨B,[],[]⟩):=by rw[l162];exact h
 have hd:=does_callM (xs:=[.sl .nil [],.func 91 [.ptr jj 0]]) h' rfl rfl
 have e:=trunc_tame (ex:=[]) (v:=.int .i64 (-1)) hB rfl
 rw[List.append_nil]at e
 rw[show(⟨B,[],[]⟩:Heap).boxes.length=B.length from rfl,show(⟨B,[],[]⟩:Heap).toks.length=0 from rfl,show shutA (.int .i64 (-1))=.int .i64 (-1)from rfl,e]at hd
 have hd':Does cfg (.callM (.c (.func 162 [])) [.c (.sl .nil []),.c (.func 91 [.ptr jj 0])]) ⟨B,[],[]⟩ (.int .i64 (-1)) ⟨B,[],[]⟩:=hd
 have k2:Goes cfg a89 [.c c89] (initEnv [.sl .nil [],.func 91 [.ptr jj 0]]) ⟨B,[],[]⟩ (fun r=>r=(.ret (.sl .nil []),⟨B,[],[]⟩)):=by
  exact let ζ1:Heap:={boxes:=B,toks:=[],loops:=[]:Heap};goG 60 [] trivial (.effY (show Does cfg (.callM (.c (.func (162:FuncId) [])) [.c (.sl .nil []),.c (.func (91:FuncId) [.ptr jj (0:Nat)])]) ζ1 (.int .i64 (-1:Int)) ζ1 from hd')<|.tt<|.fin ((.ret (.sl .nil []),ζ1)) rfl) (by kernel_rfl)
 obtain⟨r,h2,rfl⟩:=k2
 have h2':lim cfg (.fn 89) [.sl .nil [],.func 91 [.ptr jj 0]] ⟨B,[],[]⟩=some (.ret (.sl .nil []),⟨B,[],[]⟩):=by rw[l89];exact h2
 have hd2:=does_callM (xs:=[.sl .nil [],.func 91 [.ptr jj 0]]) h2' rfl rfl
 have e2:=trunc_tame (ex:=[]) (v:=.sl .nil []) hB rfl
 rw[List.append_nil]at e2
 rw[show(⟨B,[],[]⟩:Heap).boxes.length=B.length from rfl,show(⟨B,[],[]⟩:Heap).toks.length=0 from rfl,show shutA (.sl .nil [])=.sl .nil []from rfl,e2]at hd2
 exact hd2
end Go.Aa.T
set_option linter.unusedVariables false
set_option linter.unusedSimpArgs false
set_option maxRecDepth 100000
namespace Go.Aa.T
open Go.Aa Go.Proofs
theorem does_callN{xs:List AV}{g:FuncId}{v0 v:AV}{H H0 H2:Heap}(h0:lim cfg (.fn g) xs Heap.nil=some (.ret v0,H0))(hn:isData (shutA v0)=false)(h:lim cfg (.fn g) xs H=some (.ret v,H2))(hx:xs.map shutA=xs)(hd:xs.all isData=true):
 Does cfg (.callM (.c (.func g [])) (xs.map .c)) H (shutA v) (trunc H.boxes.length H.toks.length (shutA v) H2):=fun T=>by
 have e:(xs.map Opd.c).map (fun x=>shutA (ev T x))=xs:=by rw[List.map_map];exact hx
 simp only[opStep,e]
 rw[show ev T (.c (.func g []))=.func g []from rfl]
 simp only[callW,hd,List.all_nil,Bool.and_self,if_true,List.append_nil,h0,hn,Bool.false_eq_true,if_false,callE,h]
theorem trunc_new{B ex:List (List AV)}{nb k off n es:Nat}(hl:nb≤k):trunc nb 0 (.msl k off n es) ⟨B,[],[]⟩=⟨B,[],[]⟩:=by
 unfold trunc
 have hw:within nb 0 (.msl k off n es)=false:=by simp[within,in2,in1,in0];omega
 simp only[hw,List.length_nil,List.all_nil,Bool.true_and,Bool.and_false,Bool.false_and,Bool.false_eq_true,if_false,List.take_zero,ite_self]
theorem clone_lim{l:List Pod}(hl:l≠[])(hs:l.length≤100000)(B:List (List AV)):lim cfg (.fn 90) [.sl .sh (l.map encPd)] ⟨B,[],[]⟩=some (.ret (.msl B.length 0 l.length 11),⟨B++[pcs l],[],[]⟩):=by
 rw[lim_ext (g:=cloneE 11 184) rfl rfl]
 obtain⟨x,m,rfl⟩:=List.exists_cons_of_ne_nil hl
 have hd:dataOk ((x::m).map encPd)=true:=dataOk_map fun _=>rfl
 simp only[cloneE,List.map_cons,appendMA]
 rw[if_pos ⟨by trivial,by trivial,by simp only[List.length_cons,List.length_map]at hs⊢;omega,lenPd (l:=x::m),hd⟩]
 simp[pcs]
theorem clone_any{l:List Pod}(hl:l≠[])(hs:l.length≤100000)(B:List (List AV)):Does cfg (.callM (.c (.func 90 [])) [.c (.sl .sh (l.map encPd))]) ⟨B,[],[]⟩ (.msl B.length 0 l.length 11) ⟨B++[pcs l],[],[]⟩:=by
 have h:=does_callN (xs:=[.sl .sh (l.map encPd)]) (clone_lim hl hs []) rfl (clone_lim hl hs B) rfl rfl
 rw[show shutA (.msl B.length 0 l.length 11)=.msl B.length 0 l.length 11 from rfl,show(⟨B,[],[]⟩:Heap).boxes.length=B.length from rfl,show(⟨B,[],[]⟩:Heap).toks.length=0 from rfl,trunc_new (ex:=[]) (Nat.le_refl _)]at h
 exact h
theorem clone_none(B:List (List AV))(hB:Tame B):Does cfg (.callM (.c (.func 90 [])) [.c (.sl .sh [])]) ⟨B,[],[]⟩ (.sl .nil []) ⟨B,[],[]⟩:=by
 have h:∀H,lim cfg (.fn 90) [.sl .sh []] H=some (.ret (.sl .nil []),H):=fun H=>by
  rw[lim_ext (g:=cloneE 11 184) rfl rfl];rfl
 have h:=does_callN (xs:=[.sl .sh []]) (h Heap.nil) rfl (h ⟨B,[],[]⟩) rfl rfl
 have e:=trunc_tame (ex:=[]) (v:=.sl .nil []) hB rfl
 rw[List.append_nil]at e
 rw[show shutA (.sl .nil [])=.sl .nil []from rfl,show(⟨B,[],[]⟩:Heap).boxes.length=B.length from rfl,show(⟨B,[],[]⟩:Heap).toks.length=0 from rfl,e]at h
 exact h
inductive PR(kk:Nat)(n:Nat)(l:List Pod):AV→List (List AV)→Prop
 |some(Z:List AV)(hZ:Z.all data0=true)(hn:0<n)(hl:(pcs l++Z).length=n*11):PR kk n l (.msl kk 0 l.length 11) [pcs l++Z]
 |none(h0:n=0)(hl:l=[]):PR kk n l (.sl .nil []) []
abbrev stC(s:St)(v:AV):List AV:=[.sl .sh (s.nodes.map encN),v,.sl .sh (s.buds.map encB)]
def stA(s:St)(v:AV):AV:=.agg (stC s v)
def RetDr(B:List (List AV))(s:St)(nm:List UInt8)(r:ARes×Heap):Prop:=∃v ex,PR (B.length+3) s.pods.length (offP nm s.pods) v ex∧r=(.ret (stA s v),⟨B++([stC s v,[.str nm],stC s v]++ex),[],[]⟩)
theorem drop0(s:St)(nm:List UInt8)(hs:s.pods.length≤100000):Goes cfg a27 [.c c27] (initEnv [encSt s,.str nm]) ⟨[],[],[]⟩ (RetDr [] s nm):=by
 obtain⟨nodes,pods,buds⟩:=s
 have hT:Tame [(encSt ⟨nodes,pods,buds⟩).cells,[.str nm],[.sl .full [],.sl .full [],.sl .full []]]:=tame_data rfl
 by_cases hp:pods=[]
 ·subst hp
  have h1:=clone_none [(encSt ⟨nodes,[],buds⟩).cells,[.str nm],[.sl .full [],.sl .full [],.sl .full []]] hT
  have h2:=delete_nil (jj:=1) hT
  have out:RetDr [] ⟨nodes,[],buds⟩ nm (.ret (stA ⟨nodes,[],buds⟩ (.sl .nil [])),⟨[stC ⟨nodes,[],buds⟩ (.sl .nil []),[.str nm],stC ⟨nodes,[],buds⟩ (.sl .nil [])],[],[]⟩):=⟨_,[],.none rfl rfl,rfl⟩
  exact let ζ1:Heap:={boxes:=[(encSt {nodes:=nodes,pods:=[],buds:=buds:St}).cells,[.str nm],[.sl .full [],.sl .full [],.sl .full []]],toks:=[],loops:=[]:Heap};let ζ2:List AV:=[.sl .sh (List.map encN {nodes:=nodes,pods:=[],buds:=buds:St}.nodes),.sl .nil [],.sl .sh (List.map encB {nodes:=nodes,pods:=[],buds:=buds:St}.buds)];goG 60 [] trivial (.effY (show Does cfg (.callM (.c (.func (90:FuncId) [])) [.c (.sl .sh [])]) ζ1 (.sl .nil []) ζ1 from h1)<|.effY (show Does cfg (.callM (.c (.func (89:FuncId) [])) [.c (.sl .nil []),.c (.func (91:FuncId) [.ptr 1 0])]) ζ1 (.sl .nil []) ζ1 from h2)<|.fin ((.ret (.agg ζ2),{boxes:=[ζ2,[.str nm],ζ2],toks:=[],loops:=[]:Heap})) (by exact out)) (by kernel_rfl)
 ·have h1:=clone_any hp hs [(encSt ⟨nodes,pods,buds⟩).cells,[.str nm],[.sl .full [],.sl .full [],.sl .full []]]
  obtain⟨Z,hZ,hl,h2⟩:=delete_any (B:=[(encSt ⟨nodes,pods,buds⟩).cells,[.str nm],[.sl .full [],.sl .full [],.sl .full []],pcs pods]) (kk:=3) (jj:=1) (n:=pods.length) (nm:=nm) (C:=pods) (by simp only at hs;omega) (by decide) rfl rfl (tame_app (ex:=[pcs pods]) hT (by simp[pcs_data])) rfl
  have hpos:0<pods.length:=List.length_pos_iff.2 hp
  have out:RetDr [] ⟨nodes,pods,buds⟩ nm (.ret (stA ⟨nodes,pods,buds⟩ (.msl 3 0 (offP nm pods).length 11)),⟨[stC ⟨nodes,pods,buds⟩ (.msl 3 0 (offP nm pods).length 11),[.str nm],stC ⟨nodes,pods,buds⟩ (.msl 3 0 (offP nm pods).length 11),pcs (offP nm pods)++Z],[],[]⟩):=⟨_,_,.some Z hZ hpos hl,rfl⟩
  have h1':Does cfg (.callM (.c (.func 90 [])) [.c (.sl .sh (pods.map encPd))]) ⟨[(encSt ⟨nodes,pods,buds⟩).cells,[.str nm],[.sl .full [],.sl .full [],.sl .full []]],[],[]⟩ (.msl 3 0 pods.length 11) ⟨[(encSt ⟨nodes,pods,buds⟩).cells,[.str nm],[.sl .full [],.sl .full [],.sl .full []],pcs pods],[],[]⟩:=h1
  have h2':Does cfg (.callM (.c (.func 89 [])) [.c (.msl 3 0 pods.length 11),.c (.func 91 [.ptr 1 0])]) ⟨[(encSt ⟨nodes,pods,buds⟩).cells,[.str nm],[.sl .full [],.sl .full [],.sl .full []],pcs pods],[],[]⟩ (.msl 3 0 (offP nm pods).length 11) ⟨[(encSt ⟨nodes,pods,buds⟩).cells,[.str nm],[.sl .full [],.sl .full [],.sl .full []],pcs (offP nm pods)++Z],[],[]⟩:=h2
  generalize pcs (offP nm pods)++Z=R at h2' out
  generalize pcs pods=Q at h1' h2'
  exact let ζ1:List AV:=[.sl .sh (List.map encN {nodes:=nodes,pods:=pods,buds:=buds:St}.nodes),.msl (3:Nat) (0:Nat) (offP nm pods).length (11:Nat),.sl .sh (List.map encB {nodes:=nodes,pods:=pods,buds:=buds:St}.buds)];let ζ3:List AV:=[.sl .full [],.sl .full [],.sl .full []];let ζ2:Heap:={boxes:=[(encSt {nodes:=nodes,pods:=pods,buds:=buds:St}).cells,[.str nm],ζ3,Q],toks:=[],loops:=[]:Heap};goG 60 [] trivial (.effY (show Does cfg (.callM (.c (.func (90:FuncId) [])) [.c (.sl .sh (pods.map encPd))]) {boxes:=[(encSt {nodes:=nodes,pods:=pods,buds:=buds:St}).cells,[.str nm],ζ3],toks:=[],loops:=[]:Heap} (.msl (3:Nat) (0:Nat) pods.length (11:Nat)) ζ2 from h1')<|.effY (show Does cfg (.callM (.c (.func (89:FuncId) [])) [.c (.msl (3:Nat) (0:Nat) pods.length (11:Nat)),.c (.func (91:FuncId) [.ptr 1 0])]) ζ2 (.msl (3:Nat) (0:Nat) (offP nm pods).length (11:Nat)) {boxes:=[(encSt {nodes:=nodes,pods:=pods,buds:=buds:St}).cells,[.str nm],ζ3,R],toks:=[],loops:=[]:Heap}from h2')<|.fin ((.ret (.agg ζ1),{boxes:=[ζ1,[.str nm],ζ1,R],toks:=[],loops:=[]:Heap})) (by exact out)) (by kernel_rfl)
def dropS(s:St)(nm:List UInt8):St:={s with pods:=offP nm s.pods}
theorem unrow_pods(Z:List AV):∀l:List Pod,unrow 11 l.length (pcs l++Z)=l.map encPd
 |[]=>rfl
 |x::l=>by
  have e:pcs (x::l)++Z=(encPd x).cells++(pcs l++Z):=by simp[pcs,rowCells]
  have ih:=unrow_pods Z l
  rw[e]
  show encPd x::unrow 11 l.length (pcs l++Z)=_
  rw[ih];rfl
theorem frz_pods{bs:List (List AV)}{kk:Nat}{l:List Pod}{Z:List AV}(hk:bs[kk]?=some (pcs l++Z))(hZ:Z.all data0=true):frz1 ⟨bs,[],[]⟩ (.msl kk 0 l.length 11)=some (.sl .sh (l.map encPd)):=by
 have hl:=pcs_len l
 simp only[frz1,hk,List.drop_zero]
 rw[if_pos ⟨by rw[List.length_append];omega,Nat.zero_le _,by decide,by rw[List.all_append,pcs_data,hZ];rfl⟩,unrow_pods]
theorem out_stA{bs:List (List AV)}{s:St}{v:AV}{l:List Pod}(hv:isData (shutA (stA s v))=false)(hs:shut1 v=v)(hf:frz1 ⟨bs,[],[]⟩ v=some (.sl .sh (l.map encPd))):dataOut ⟨bs,[],[]⟩ (stA s v)=some (encSt {s with pods:=l}):=by
 unfold dataOut
 rw[if_neg (by rw[hv];decide)]
 have:frzA ⟨bs,[],[]⟩ (stA s v)=some (encSt {s with pods:=l}):=by
  simp only[stA,frzA,frz2,frzL,hf]
  simp[frz1,encSt]
 rw[this]
 rfl
theorem pr_out{B:List (List AV)}{s:St}{l:List Pod}{v:AV}{ex:List (List AV)}{n:Nat}{b0 b1 b2:List AV}(h:PR (B.length+3) n l v ex):dataOut ⟨B++([b0,b1,b2]++ex),[],[]⟩ (stA s v)=some (encSt {s with pods:=l}):=by
 cases h with
 |some Z hZ hn hl=>
  refine out_stA rfl rfl (frz_pods ?_ hZ)
  rw[List.getElem?_append_right (by omega),Nat.add_sub_cancel_left]
  rfl
 |none h0 hl=>subst hl;exact out_stA rfl rfl rfl
theorem drop_gives(s:St)(nm:List UInt8)(hs:s.pods.length≤100000):GivesF cfg 27 [encSt s,.str nm] (encSt (dropS s nm)):=by
 obtain⟨r,h,v,ex,hp,rfl⟩:=drop0 s nm hs
 refine⟨_,_,(l27 _ _).trans h,pr_out (B:=[]) hp⟩
end Go.Aa.T
set_option linter.unusedVariables false
set_option linter.unusedSimpArgs false
set_option maxRecDepth 100000
namespace Go.Aa.T
open Go.Aa Go.Proofs
def before(nm:List UInt8)(p:Pod):Bool:=Op.bytesLess p.name nm
end Go.Aa.T
set_option linter.unusedVariables false
set_option linter.unusedSimpArgs false
set_option maxRecDepth 100000
namespace Go.Aa.T
open Go.Aa Go.Proofs
def srtP(l:List Pod):Prop:=l.Pairwise fun a b=>Op.bytesLess a.name b.name=true
theorem off_len(nm:List UInt8)(l:List Pod):(offP nm l).length≤l.length:=List.length_filter_le _ _
end Go.Aa.T
set_option linter.unusedVariables false
set_option linter.unusedSimpArgs false
set_option maxRecDepth 100000
namespace Go.Aa.T
open Go.Aa Go.Proofs
theorem less_lt{x y:List UInt8}:Op.bytesLess x y=true↔x<y:=by rw[bl_eq,decide_eq_true_eq]
theorem ord_of_not{x y:List UInt8}(h:¬(Op.bytesLess x y||x==y)=true):Op.bytesLess y x=true:=bl_not (by simpa only[Bool.not_eq_true]using h)
theorem ckAl_ordX{X:Type}{ck:X→Int}{nm:X→List UInt8}{s:List X}:∀{post:List X}{i:Nat},ckAl ck nm s i post=0→s.drop i=post→∀(j:Nat)(x p:X),i≤j+1→s[j+1]?=some x→s[j]?=some p→Op.bytesLess (nm p) (nm x)=true
 |[],i,_,hd,j,x,p,hi,hx,hp=>by
  have:=drop_ge hd
  have h2:j+1<s.length:=(List.getElem?_eq_some_iff.1 hx).1
  omega
 |y::post,i,h,hd,j,x,p,hi,hx,hp=>by
  unfold ckAl at h
  split at h
  ·split at h
   ·cases h
   ·rename_i ho
    rcases Nat.lt_or_ge i (j+1)with hlt|hge
    ·exact ckAl_ordX h (drop_next hd) j x p (by omega) hx hp
    ·have e:i=j+1:=by omega
     subst e
     have ey:y=x:=by
      have:=drop_at hd
      rw[hx]at this
      exact(Option.some.inj this).symm
     subst ey
     simp only[ordG,hp,Bool.not_eq_true]at ho
     exact ord_of_not (by rw[ho];decide)
  ·rename_i hx0;exact absurd h hx0
theorem names_ltX{X:Type}{most:Nat}{ck:X→Int}{nm:X→List UInt8}{s:List X}(h:ckAll most ck nm s=0):∀(d i:Nat)(x y:X),s[i]?=some x→s[i+d+1]?=some y→Op.bytesLess (nm x) (nm y)=true:=by
 have h0:ckAl ck nm s 0 s=0:=by
  unfold ckAll at h
  split at h
  ·exact h
  ·cases h
 intro d
 induction d with
 |zero=>intro i x y hx hy;exact ckAl_ordX h0 rfl i y x (by omega) hy hx
 |succ d ih=>
  intro i x y hx hy
  obtain⟨z,hz⟩:∃z,s[i+d+1]?=some z:=⟨s[i+d+1]'(by have:=(List.getElem?_eq_some_iff.1 hy).1;omega),List.getElem?_eq_getElem _⟩
  have a:=less_lt.1 (ih i x z hx hz)
  have b:=less_lt.1 (ckAl_ordX h0 rfl (i+d+1) y z (by omega) hy hz)
  exact less_lt.2 (List.lt_trans a b)
theorem ck_srt{s:St}(h:ckSt s=0):srtP s.pods:=by
 have h1:ckAll 128 ckPd Pod.name s.pods=0:=firstE_zero h _ (by simp)
 refine List.pairwise_iff_getElem.2 fun i j hi hj hij=> ?_
 exact names_ltX h1 (j-i-1) i _ _ (List.getElem?_eq_getElem hi) (by rw[show i+(j-i-1)+1=j by omega];exact List.getElem?_eq_getElem hj)
theorem off_app(nm:List UInt8)(a b:List Pod):offP nm (a++b)=offP nm a++offP nm b:=List.filter_append _ _
theorem off_id{nm:List UInt8}{l:List Pod}(h:∀x∈l,x.name≠nm):offP nm l=l:=List.filter_eq_self.2 fun x hx=>by simpa using h x hx
theorem off_mem{nm:List UInt8}{l:List Pod}{x:Pod}(h:x∈offP nm l):x∈l∧x.name≠nm:=by
 have:=List.mem_filter.1 h
 exact⟨this.1,by simpa using this.2⟩
theorem off_off(nm:List UInt8)(l:List Pod):offP nm (offP nm l)=offP nm l:=off_id fun x hx=>(off_mem hx).2
end Go.Aa.T
set_option linter.unusedVariables false
set_option linter.unusedSimpArgs false
set_option maxRecDepth 100000
namespace Go.Aa.T
open Go.Aa Go.Proofs
theorem gfD{g:FuncId}{xs:List AV}{u:AV}(h:GivesF cfg g xs u)(hx:xs.map shutA=xs)(hd:xs.all isData=true)(H:Heap)(T:Env):opStepD (lim cfg) (.call (.c (.func g [])) (xs.map .c)) T H=some (.val u H):=by
 obtain⟨v,H1,h1,h2⟩:=h
 have e:(xs.map Opd.c).map (fun x=>shutA (ev T x))=xs:=by rw[List.map_map];exact hx
 simp only[opStepD,e]
 rw[show ev T (.c (.func g []))=.func g []from rfl]
 simp only[callD,hd,List.all_nil,Bool.and_self,if_true,List.append_nil,h1,h2]
def _root_.Go.Aa.ScrQ.callGF{A:AFunc}{R:ARes×Heap→Prop}{g:FuncId}{u:AV}(xs:List AV)(h:GivesF cfg g xs u)(hx:xs.map shutA=xs)(hd:xs.all isData=true)(H:Heap)(s:ScrQ cfg A R):ScrQ cfg A R:=.effS (.call (.c (.func g [])) (xs.map .c)) H u (gfD h hx hd H) s
theorem gf27{a b:St}{nm:List UInt8}(h:GivesF cfg 27 [encSt a,.str nm] (encSt b))(H:Heap):Does cfg (.call (.c (.func 27 [])) [.c (encSt a),.c (.str nm)]) H (encSt b) H:=does_callF h rfl rfl H
end Go.Aa.T
set_option linter.unusedVariables false
set_option linter.unusedSimpArgs false
set_option maxRecDepth 100000
namespace Go.Aa.T
open Go.Aa Go.Proofs
theorem gf157{s:St}{key:List UInt8}{l:List AV}(h:GivesF cfg 157 [encSt s,.str key] (.sl .sh l))(H:Heap):Does cfg (.call (.c (.func 157 [])) [.c (encSt s),.c (.str key)]) H (.sl .sh l) H:=does_callF h rfl rfl H
def leastS(f:List UInt8→Nat)(own:List UInt8):List (List UInt8)→Int→Int
 |[],m=>m
 |d::l,m=>leastS f own l (if d=own then m else if(f d:Int)<m then(f d:Int)else m)
def skewS(s:St)(p:Pod)(nm:List UInt8):Int×Bool:=
 if p.key=[]then(0,true)else match domS s nm p.key with
 |none=>(0,false)
 |some own=>((countS s p own:Int)+1-leastS (countS s p) own (domsS s p.key) ((countS s p own:Int)+1),true)
theorem sk_loop(s:St)(p:Pod)(nm own:List UInt8)(ds:List (List UInt8))(hc:∀d,Gives cfg 156 [encSt s,encPd p,.str d] (.int .i64 (countS s p d)))(here:Int)(hh:0≤here∧here≤100000)(hn:ds.length≤1000):
 ∀(post:List (List UInt8))(i:Nat)(hd:ds.drop i=post)(m:Int)(hm:0≤m)(hm2:m≤100000)(T:Env)
 (hT:Has T [(0,.ptr 0 0),(2,.ptr 1 0),(3,.ptr 3 0),(4,.str own),(5,.int .i64 here),(6,.int .i64 m),(23,.sl .sh (ds.map .str)),(24,.int .i64 ds.length),(25,.int .i64 i)]),
 Goes cfg a154 k154_0 T ⟨[(encSt s).cells,(encPd p).cells,[.str nm],[.int .i64 0]],[],[]⟩ (fun r=>r=(.ret (.tuple []),⟨[(encSt s).cells,(encPd p).cells,[.str nm],[.int .i64 (here-leastS (countS s p) own post m)]],[],[]⟩)):=by
 intro post
 induction post with
 |nil=>
  intro i hd m hm hm2 T hT
  have hge:=drop_ge hd
  rw[show leastS (countS s p) own [] m=m from rfl]
  have sb:binA .sub (.int .i64 here) (.int .i64 m)=some (.int .i64 (here-m)):=subI (by omega) (by omega)
  exact goG 60 _ hT (.no (decide_eq_false (p:=(↑i:Int)<(↑ds.length:Int)) (by omega))<|.bin (show binA .sub (.int .i64 here) (.int .i64 m)=some (.int .i64 (here-m))from sb)<|.fin ((.ret (.tuple []),{boxes:=[[.sl .sh (s.nodes.map encN),.sl .sh (s.pods.map encPd),.sl .sh (s.buds.map encB)],[.str p.name,.str p.owner,.int .i64 p.prio,.sl .sh (p.need.map encA),.sl .sh (p.labels.map encP),.sl .sh (p.sel.map encM),.sl .sh (p.tols.map encL),.str p.key,.int .i64 p.most,.str p.node,.bool p.hold],[.str nm],[.int .i64 (here-m)]],toks:=[],loops:=[]:Heap})) rfl) (by kernel_rfl)
 |cons d post ih=>
  intro i hd m hm hm2 T hT
  have hlt:=drop_lt hd
  have hnx:=drop_next hd
  have hxi:idxA 1 (.sl .sh (ds.map .str)) (.int .i64 (i:Nat))=some (.ref [.str d]):=idx_row (f:=AV.str) hd rfl
  by_cases h:d=own
  ·have e:leastS (countS s p) own (d::post) m=leastS (countS s p) own post m:=by simp only[leastS,if_pos h]
   rw[e]
   have ih':=ih (i+1) hnx m hm hm2
   subst h
   exact goG 120 _ hT (.yes (decide_eq_true (p:=(↑i:Int)<(↑ds.length:Int)) (by omega))<|.idx (show idxA 1 (.sl .sh (List.map .str ds)) (.int .i64 ↑i)=some (.ref [.str d])from hxi)<|.no (show(!d==d)=false from by have hh:(d==d)=true:=(by simp);simp[hh])<|.bin (show binA .add (.int .i64 ↑i) (.int .i64 1)=some (.int .i64 (↑(i+1)))from inc_i (by omega))<|.cutQ k154_0 [(0,.ptr 0 0),(2,.ptr 1 0),(3,.ptr 3 0),(4,.str d),(5,.int .i64 here),(6,.int .i64 m),(23,.sl .sh (List.map .str ds)),(24,.int .i64 (↑ds.length)),(25,.int .i64 (↑(i+1)))] ({boxes:=[[.sl .sh (s.nodes.map encN),.sl .sh (s.pods.map encPd),.sl .sh (s.buds.map encB)],[.str p.name,.str p.owner,.int .i64 p.prio,.sl .sh (p.need.map encA),.sl .sh (p.labels.map encP),.sl .sh (p.sel.map encM),.sl .sh (p.tols.map encL),.str p.key,.int .i64 p.most,.str p.node,.bool p.hold],[.str nm],[.int .i64 0]],toks:=[],loops:=[]:Heap}) (fun T hT=>(ih' T hT))) (by kernel_rfl)
  ·have hcd:=hc d
   generalize hq:countS s p d=c at hcd
   have e:leastS (countS s p) own (d::post) m=leastS (countS s p) own post (if(c:Int)<m then(c:Int)else m):=by simp only[leastS,if_neg h,hq]
   rw[e]
   have ih':=ih (i+1) hnx (if(c:Int)<m then(c:Int)else m) (by split<;>omega) (by split<;>omega)
   have ih':∀T,Has T [(0,.ptr 0 0),(2,.ptr 1 0),(3,.ptr 3 0),(4,.str own),(5,.int .i64 here),(6,.int .i64 (if false=true then(if(c:Int)>m then(c:Int)else m)else if(c:Int)<m then(c:Int)else m)),(23,.sl .sh (ds.map .str)),(24,.int .i64 ds.length),(25,.int .i64 ((i+1:Nat):Int))]→_:=ih'
   exact let ζ1:List AV:=[.str p.name,.str p.owner,.int .i64 p.prio,.sl .sh (p.need.map encA),.sl .sh (p.labels.map encP),.sl .sh (p.sel.map encM),.sl .sh (p.tols.map encL),.str p.key,.int .i64 p.most,.str p.node,.bool p.hold];let ζ2:List AV:=[.sl .sh (s.nodes.map encN),.sl .sh (s.pods.map encPd),.sl .sh (s.buds.map encB)];goG 120 _ hT (.yes (decide_eq_true (p:=(↑i:Int)<(↑ds.length:Int)) (by omega))<|.idx (show idxA 1 (.sl .sh (List.map .str ds)) (.int .i64 ↑i)=some (.ref [.str d])from hxi)<|.yes (show(!d==own)=true from by have hh:¬((d==own)=true):=(by simpa using h);simp[hh])<|.callI hcd<|.bin (show binA .add (.int .i64 ↑i) (.int .i64 1)=some (.int .i64 (↑(i+1)))from inc_i (by omega))<|.cutQ k154_0 [(0,.ptr 0 0),(2,.ptr 1 0),(3,.ptr 3 0),(4,.str own),(5,.int .i64 here),(6,.int .i64 (if false=true then if(↑c:Int)>m then(↑c:Int)else m else if(↑c:Int)<m then(↑c:Int)else m)),(23,.sl .sh (List.map .str ds)),(24,.int .i64 (↑ds.length)),(25,.int .i64 (↑(i+1)))] ({boxes:=[ζ2,ζ1,[.str nm],[.int .i64 0]],toks:=[],loops:=[]:Heap}) (fun T hT=>(ih' T hT))) (by kernel_rfl)
theorem doms_len(s:St)(key:List UInt8):(domsS s key).length≤s.nodes.length:=by
 have h1:=vals_len key s.nodes
 have h2:=uq_len (isort (valsOf key s.nodes))
 rw[isort_length]at h2
 unfold domsS namesOf
 omega
theorem sk_all(s:St)(p:Pod)(nm:List UInt8)(hp:s.pods.length≤1000)(hs:s.nodes.length≤1000)(hl:∀n∈s.nodes,n.labels.length<9223372036854775807)(hk:¬p.key=[]):
 ∃e H1,Goes cfg a154 [.c c154] (initEnv [.ptr 0 0,.ptr 2 0,.ptr 1 0,.ptr 3 0]) ⟨[(encSt s).cells,(encPd p).cells,[.str nm],[.int .i64 0]],[],[]⟩ (fun r=>((e=0∧r.1=.ret (.tuple []))∨(e≠0∧r.1=.pan (stopV e)))∧r.2=H1∧trunc 4 0 (.int .i64 e) H1=⟨[(encSt s).cells,(encPd p).cells,[.str nm],[.int .i64 (skewS s p nm).1]],[],[]⟩)∧(skewS s p nm).2=decide (e=0):=by
 cases hd:domS s nm p.key with
 |none=>
  have hn:=dom_none s nm p.key (by omega) hl hd
  have e1:skewS s p nm=(0,false):=by unfold skewS;rw[if_neg hk,hd]
  rw[e1]
  refine⟨10,⟨[(encSt s).cells,(encPd p).cells,[.str nm],[.int .i64 0]],[],[]⟩,?_,rfl⟩
  exact let ζ1:List AV:=[.sl .sh (s.nodes.map encN),.sl .sh (s.pods.map encPd),.sl .sh (s.buds.map encB)];goG 90 [] trivial (.callP ([.agg ζ1,.str nm,.str p.key]) ({boxes:=[ζ1,[.str p.name,.str p.owner,.int .i64 p.prio,.sl .sh (p.need.map encA),.sl .sh (p.labels.map encP),.sl .sh (p.sel.map encM),.sl .sh (p.tols.map encL),.str p.key,.int .i64 p.most,.str p.node,.bool p.hold],[.str nm],[.int .i64 0]],toks:=[],loops:=[]:Heap}) (show Pans cfg (155:FuncId) [encSt s,.str nm,.str p.key] (stopV (10:Int))from hn) ⟨rfl,rfl⟩ rfl (by exact⟨.inr ⟨by decide,rfl⟩,rfl,trunc_self⟩)) (by kernel_rfl)
 |some own=>
  have hy:=dom_some s nm p.key own (by omega) hl hd
  have hc:=fun d=>count_any s p d hp (by omega) hl
  have hcl:countS s p own≤s.pods.length:=List.length_filter_le _ _
  have e1:skewS s p nm=((countS s p own:Int)+1-leastS (countS s p) own (domsS s p.key) ((countS s p own:Int)+1),true):=by unfold skewS;rw[if_neg hk,hd]
  rw[e1]
  have dl:=doms_len s p.key
  have ds:=doms_any s p.key hs hl
  have hco:=hc own
  have lo:=sk_loop s p nm own (domsS s p.key) hc ((countS s p own:Int)+1) (by omega) (by omega) (domsS s p.key) 0 rfl ((countS s p own:Int)+1) (by omega) (by omega)
  refine⟨0,⟨[(encSt s).cells,(encPd p).cells,[.str nm],[.int .i64 ((countS s p own:Int)+1-leastS (countS s p) own (domsS s p.key) ((countS s p own:Int)+1))]],[],[]⟩,?_,rfl⟩
  have key:Goes cfg a154 [.c c154] (initEnv [.ptr 0 0,.ptr 2 0,.ptr 1 0,.ptr 3 0]) ⟨[(encSt s).cells,(encPd p).cells,[.str nm],[.int .i64 0]],[],[]⟩ (fun r=>r=(.ret (.tuple []),⟨[(encSt s).cells,(encPd p).cells,[.str nm],[.int .i64 ((countS s p own:Int)+1-leastS (countS s p) own (domsS s p.key) ((countS s p own:Int)+1))]],[],[]⟩)):=by
   generalize leastS (countS s p) own (domsS s p.key) ((countS s p own:Int)+1)=le at lo⊢
   generalize domsS s p.key=dd at*
   generalize countS s p own=c at*
   have ad:binA .add (.int .i64 (c:Int)) (.int .i64 1)=some (.int .i64 ((c:Int)+1)):=addI (by omega) (by omega)
   exact let ζ2:List AV:=[.sl .sh (s.nodes.map encN),.sl .sh (s.pods.map encPd),.sl .sh (s.buds.map encB)];let ζ1:Heap:={boxes:=[ζ2,[.str p.name,.str p.owner,.int .i64 p.prio,.sl .sh (p.need.map encA),.sl .sh (p.labels.map encP),.sl .sh (p.sel.map encM),.sl .sh (p.tols.map encL),.str p.key,.int .i64 p.most,.str p.node,.bool p.hold],[.str nm],[.int .i64 0]],toks:=[],loops:=[]:Heap};goG 90 [] trivial (.callI hy<|.callI hco<|.bin (show binA .add (.int .i64 ↑c) (.int .i64 1)=some (.int .i64 ((↑c:Int)+(1:Int)))from ad)<|.effY (show Does cfg (.call (.c (.func (157:FuncId) [])) [.c (encSt s),.c (.str p.key)]) ζ1 (.sl .sh (List.map .str dd)) ζ1 from gf157 ds _)<|.len (show lenA false (.sl .sh (List.map .str dd))=some (.int .i64 (↑dd.length))from len_map _)<|.cutQ k154_0 [(0,.ptr 0 0),(2,.ptr 1 0),(3,.ptr 3 0),(4,.str own),(5,.int .i64 ((↑c:Int)+(1:Int))),(6,.int .i64 ((↑c:Int)+(1:Int))),(23,.sl .sh (List.map .str dd)),(24,.int .i64 (↑dd.length)),(25,.int .i64 0)] (ζ1) (fun T hT=>(lo T hT))) (by kernel_rfl)
  exact Goes.imp key fun r hr=>by subst hr;exact⟨.inl ⟨rfl,rfl⟩,rfl,trunc_self⟩
theorem skew_any(s:St)(p:Pod)(nm:List UInt8)(hp:s.pods.length≤1000)(hs:s.nodes.length≤1000)(hl:∀n∈s.nodes,n.labels.length<9223372036854775807):
 Gives cfg 83 [encSt s,encPd p,.str nm] (.tuple [.int .i64 (skewS s p nm).1,.bool (skewS s p nm).2]):=by
 by_cases hk:p.key=[]
 ·have e:skewS s p nm=(0,true):=by unfold skewS;rw[if_pos hk]
  rw[e]
  refine Gives.run (l83 _ _) ?_
  exact goG 60 [] trivial (.yes (show(p.key==[])=true from(by simp[hk]))<|.fin ((.ret (.tuple [.int .i64 0,.bool true]),{boxes:=[[.sl .sh (s.nodes.map encN),.sl .sh (s.pods.map encPd),.sl .sh (s.buds.map encB)],[.str p.name,.str p.owner,.int .i64 p.prio,.sl .sh (p.need.map encA),.sl .sh (p.labels.map encP),.sl .sh (p.sel.map encM),.sl .sh (p.tols.map encL),.str p.key,.int .i64 p.most,.str p.node,.bool p.hold],[.str nm]],toks:=[],loops:=[]:Heap})) rfl) (by kernel_rfl)
 ·refine Gives.run (l83 _ _) ?_
  obtain⟨e,H1,⟨⟨a,H2⟩,hr,hR,hH,ht2⟩,h2⟩:=sk_all s p nm hp hs hl hk
  simp only at hH
  subst hH
  rw[h2]
  have ht:lim cfg (.fn 77) [.func 154 [.ptr 0 0,.ptr 2 0,.ptr 1 0,.ptr 3 0]] ⟨[(encSt s).cells,(encPd p).cells,[.str nm],[.int .i64 0]],[],[]⟩=some (.ret (.int .i64 e),H2):=by
   rw[lim_try rfl,l154,hr]
   rcases hR with⟨h0,h1⟩|⟨h0,h1⟩
   ·simp only at h1;subst h1;subst h0;rfl
   ·simp only at h1;subst h1;rfl
  have hd:=does_callE (xs:=[.func 154 [.ptr 0 0,.ptr 2 0,.ptr 1 0,.ptr 3 0]]) (caps:=[]) ht rfl rfl
  rw[show shutA (.int .i64 e)=.int .i64 e from rfl,show trunc (⟨[(encSt s).cells,(encPd p).cells,[.str nm],[.int .i64 0]],[],[]⟩:Heap).boxes.length (⟨[(encSt s).cells,(encPd p).cells,[.str nm],[.int .i64 0]],[],[]⟩:Heap).toks.length (.int .i64 e) H2=⟨[(encSt s).cells,(encPd p).cells,[.str nm],[.int .i64 (skewS s p nm).1]],[],[]⟩from ht2]at hd
  generalize(skewS s p nm).1=sk at hd⊢
  exact goG 120 [] trivial (.no (show(p.key==[])=false from Bool.eq_false_iff.2 (by simp[hk]))<|.effY (show Does cfg (.call (.c (.func (77:FuncId) [])) (List.map .c [.func (154:FuncId) [.ptr 0 0,.ptr 2 0,.ptr 1 0,.ptr 3 0]])) {boxes:=[(encSt s).cells,(encPd p).cells,[.str nm],[.int .i64 0]],toks:=[],loops:=[]:Heap} (.int .i64 e) {boxes:=[(encSt s).cells,(encPd p).cells,[.str nm],[.int .i64 sk]],toks:=[],loops:=[]:Heap}from hd)<|.fin ((.ret (.tuple [.int .i64 sk,.bool (e==(0:Int))]),{boxes:=[[.sl .sh (s.nodes.map encN),.sl .sh (s.pods.map encPd),.sl .sh (s.buds.map encB)],[.str p.name,.str p.owner,.int .i64 p.prio,.sl .sh (p.need.map encA),.sl .sh (p.labels.map encP),.sl .sh (p.sel.map encM),.sl .sh (p.tols.map encL),.str p.key,.int .i64 p.most,.str p.node,.bool p.hold],[.str nm],[.int .i64 sk]],toks:=[],loops:=[]:Heap})) rfl) (by kernel_rfl)
end Go.Aa.T
set_option linter.unusedVariables false
set_option linter.unusedSimpArgs false
set_option maxRecDepth 100000
namespace Go.Aa.T
open Go.Aa Go.Proofs
section
variable{H:Heap}{g:FuncId}{k:Nat}{p:Tol→Bool}
theorem idxL_loop(hd:∀y:Tol,Does cfg (.call (.c (.func g [.ptr k 0])) [.c (encL y)]) H (.bool (p y)) H)(l:List Tol)(hn:l.length<9223372036854775807):∀(post:List Tol)(i:Nat)(hdr:l.drop i=post)(T:Env)
 (hT:Has T [(0,.sl .sh (l.map encL)),(1,.func g [.ptr k 0]),(7,.int .i64 l.length),(8,.int .i64 i)]),
 Goes cfg a216 k216_0 T H (fun r=>r=(.ret (.int .i64 (fidxB p post i)),H)):=by
 intro post
 induction post with
 |nil=>
  intro i hdr T hT
  have hge:=drop_ge hdr
  exact goG 60 _ hT (.no (decide_eq_false (p:=(↑i:Int)<(↑l.length:Int)) (by omega))<|.fin ((.ret (.int .i64 (-1:Int)),H)) rfl) (by kernel_rfl)
 |cons x post ih=>
  intro i hdr T hT
  have hlt:=drop_lt hdr
  have hnx:=drop_next hdr
  have hdx:=hd x
  cases hp:p x with
  |true=>
   rw[hp]at hdx
   have e:fidxB p (x::post) i=i:=by simp[fidxB,hp]
   rw[e]
   exact let ζ1:List AV:=[.str x.key,.str x.val,.bool x.any];goG 60 _ hT (.yes (decide_eq_true (p:=(↑i:Int)<(↑l.length:Int)) (by omega))<|.idx (show idxA 3 (.sl .sh (l.map encL)) (.int .i64 ↑i)=some (.ref (encL x).cells)from idx_row hdr (by rfl))<|.load (rfl:loadA true 3 H (.ref ζ1)=some (.agg ζ1))<|.effY (show Does cfg (.call (.c (.func g [.ptr k (0:Nat)])) [.c (encL x)]) H (.bool true) H from hdx)<|.tt<|.fin ((.ret (.int .i64 ↑i),H)) rfl) (by kernel_rfl)
  |false=>
   rw[hp]at hdx
   have e:fidxB p (x::post) i=fidxB p post (i+1):=by simp[fidxB,hp]
   rw[e]
   exact let ζ1:List AV:=[.str x.key,.str x.val,.bool x.any];goG 60 _ hT (.yes (decide_eq_true (p:=(↑i:Int)<(↑l.length:Int)) (by omega))<|.idx (show idxA 3 (.sl .sh (l.map encL)) (.int .i64 ↑i)=some (.ref (encL x).cells)from idx_row hdr (by rfl))<|.load (rfl:loadA true 3 H (.ref ζ1)=some (.agg ζ1))<|.effY (show Does cfg (.call (.c (.func g [.ptr k (0:Nat)])) [.c (encL x)]) H (.bool false) H from hdx)<|.ff<|.bin (show binA .add (.int .i64 ↑i) (.int .i64 1)=some (.int .i64 (↑(i+1)))from inc_i (by omega))<|.cutQ k216_0 [(0,.sl .sh (l.map encL)),(1,.func g [.ptr k (0:Nat)]),(7,.int .i64 (↑l.length)),(8,.int .i64 (↑(i+1)))] (H) (fun T hT=>(ih (i+(1:Nat)) hnx T hT))) (by kernel_rfl)
theorem idxL(hd:∀y:Tol,Does cfg (.call (.c (.func g [.ptr k 0])) [.c (encL y)]) H (.bool (p y)) H)(l:List Tol)(hn:l.length<9223372036854775807):
 lim cfg (.fn 216) [.sl .sh (l.map encL),.func g [.ptr k 0]] H=some (.ret (.int .i64 (fidxB p l 0)),H):=by
 rw[l216]
 have h:=idxL_loop hd l hn l 0 rfl
 have key:Goes cfg a216 [.c c216] (initEnv [.sl .sh (l.map encL),.func g [.ptr k 0]]) H (fun r=>r=(.ret (.int .i64 (fidxB p l 0)),H)):=by
  exact goG 60 [] trivial (.len (show lenA false (.sl .sh (l.map encL))=some (.int .i64 (↑l.length))from len_map _)<|.cutQ k216_0 [(0,.sl .sh (l.map encL)),(1,.func g [.ptr k (0:Nat)]),(7,.int .i64 (↑l.length)),(8,.int .i64 0)] (H) (fun T hT=>(h T hT))) (by kernel_rfl)
 obtain⟨r,h,rfl⟩:=key
 exact h
end
theorem bears_one(t:Taint)(y:Tol):Does cfg (.call (.c (.func 202 [.ptr 0 0])) [.c (encL y)]) ⟨[t.cells],[],[]⟩ (.bool (one1 y t)) ⟨[t.cells],[],[]⟩:=by
 have key:Goes cfg a202 [.c c202] (initEnv [encL y,.ptr 0 0]) ⟨[t.cells],[],[]⟩ (fun r=>r=(.ret (.bool (one1 y t)),⟨[t.cells]++[(encL y).cells],[],[]⟩)):=by
  by_cases h1:y.key=[]
  ·by_cases h2:y.any=true
   ·have e:one1 y t=true:=by simp[one1,h1,h2]
    rw[e]
    exact goG 60 [] trivial (.yes (show(y.key==[])=true from(by simpa using h1))<|.tt<|.yes (show(y.any)=true from(by simpa using h2))<|.fin ((.ret (.bool true),{boxes:=[[.str t.key,.str t.val,.bool t.hard],[.str y.key,.str y.val,.bool y.any]],toks:=[],loops:=[]:Heap})) rfl) (by kernel_rfl)
   ·have e:one1 y t=(y.val==t.val):=by simp[one1,h1,h2]
    rw[e]
    exact goG 60 [] trivial (.yes (show(y.key==[])=true from(by simpa using h1))<|.tt<|.no (show(y.any)=false from Bool.eq_false_iff.2 (by simpa using h2))<|.fin ((.ret (.bool (y.val==t.val)),{boxes:=[[.str t.key,.str t.val,.bool t.hard],[.str y.key,.str y.val,.bool y.any]],toks:=[],loops:=[]:Heap})) rfl) (by kernel_rfl)
  ·by_cases h3:y.key=t.key
   ·by_cases h2:y.any=true
    ·have e:one1 y t=true:=by simp[one1,h3,h2]
     rw[e]
     exact goG 60 [] trivial (.no (show(y.key==[])=false from Bool.eq_false_iff.2 (by simpa using h1))<|.yes (show(y.key==t.key)=true from(by simpa using h3))<|.yes (show(y.any)=true from(by simpa using h2))<|.fin ((.ret (.bool true),{boxes:=[[.str t.key,.str t.val,.bool t.hard],[.str y.key,.str y.val,.bool y.any]],toks:=[],loops:=[]:Heap})) rfl) (by kernel_rfl)
    ·have e:one1 y t=(y.val==t.val):=by simp[one1,h3,h2]
     rw[e]
     exact goG 60 [] trivial (.no (show(y.key==[])=false from Bool.eq_false_iff.2 (by simpa using h1))<|.yes (show(y.key==t.key)=true from(by simpa using h3))<|.no (show(y.any)=false from Bool.eq_false_iff.2 (by simpa using h2))<|.fin ((.ret (.bool (y.val==t.val)),{boxes:=[[.str t.key,.str t.val,.bool t.hard],[.str y.key,.str y.val,.bool y.any]],toks:=[],loops:=[]:Heap})) rfl) (by kernel_rfl)
   ·have e:one1 y t=false:=by simp[one1,h1,h3]
    rw[e]
    exact goG 60 [] trivial (.no (show(y.key==[])=false from Bool.eq_false_iff.2 (by simpa using h1))<|.no (show(y.key==t.key)=false from Bool.eq_false_iff.2 (by simpa using h3))<|.fin ((.ret (.bool false),{boxes:=[[.str t.key,.str t.val,.bool t.hard],[.str y.key,.str y.val,.bool y.any]],toks:=[],loops:=[]:Heap})) rfl) (by kernel_rfl)
 obtain⟨r,h,rfl⟩:=key
 have h2:lim cfg (.fn 202) ([encL y]++[.ptr 0 0]) ⟨[t.cells],[],[]⟩=some (.ret (.bool (one1 y t)),⟨[t.cells]++[(encL y).cells],[],[]⟩):=by
  rw[l202];exact h
 have hd:=does_callE h2 rfl rfl
 rwa [show shutA (.bool (one1 y t))=.bool (one1 y t)from rfl,trunc_plain (bs:=[t.cells]) (ex:=[(encL y).cells]) (ts:=[]) rfl]at hd
def bearsB(l:List Tol)(t:Taint):Bool:=l.any fun y=>one1 y t
theorem bears_has(l:List Tol)(t:Taint)(hl:l.length<9223372036854775807):lim cfg (.fn 201) [.sl .sh (l.map encL),.func 202 [.ptr 0 0]] ⟨[t.cells],[],[]⟩=some (.ret (.bool (bearsB l t)),⟨[t.cells],[],[]⟩):=by
 rw[l201]
 have h0:=does_callE (xs:=[.sl .sh (l.map encL),.func 202 [.ptr 0 0]]) (caps:=[]) (idxL (g:=202) (k:=0) (bears_one t) l hl) rfl rfl
 rw[show shutA (.int .i64 (fidxB (fun y:Tol=>one1 y t) l 0))=.int .i64 (fidxB (fun y:Tol=>one1 y t) l 0)from rfl,
  show trunc (⟨[t.cells],[],[]⟩:Heap).boxes.length (⟨[t.cells],[],[]⟩:Heap).toks.length (.int .i64 (fidxB (fun y:Tol=>one1 y t) l 0)) ⟨[t.cells],[],[]⟩=⟨[t.cells],[],[]⟩from rfl]at h0
 have hf:decide (0≤fidxB (fun y:Tol=>one1 y t) l 0)=bearsB l t:=fidxB_ge (fun y:Tol=>one1 y t) l 0
 generalize fidxB (fun y:Tol=>one1 y t) l 0=c at h0 hf
 have key:Goes cfg a201 [.c c201] (initEnv [.sl .sh (l.map encL),.func 202 [.ptr 0 0]]) ⟨[t.cells],[],[]⟩ (fun r=>r=(.ret (.bool (bearsB l t)),⟨[t.cells],[],[]⟩)):=by
  exact let ζ1:Heap:={boxes:=[t.cells],toks:=[],loops:=[]:Heap};goG 60 [] trivial (.effY (show Does cfg (.call (.c (.func (216:FuncId) [])) (List.map .c [.sl .sh (l.map encL),.func (202:FuncId) [.ptr 0 0]])) ζ1 (.int .i64 c) ζ1 from h0)<|.fin ((.ret (.bool (decide ((0:Int)≤c))),{boxes:=[[.str t.key,.str t.val,.bool t.hard]],toks:=[],loops:=[]:Heap})) (by simp+zetaDelta [←hf,Taint.cells])) (by kernel_rfl)
 obtain⟨r,h,rfl⟩:=key
 exact h
theorem bears_any(l:List Tol)(t:Taint)(hl:l.length<9223372036854775807):Gives cfg 153 [.sl .sh (l.map encL),encT t] (.bool (bearsB l t)):=by
 refine Gives.run (l153 _ _) ?_
 have h0:=does_callE (xs:=[.sl .sh (l.map encL),.func 202 [.ptr 0 0]]) (caps:=[]) (bears_has l t hl) rfl rfl
 generalize bearsB l t=b at h0⊢
 rw[show trunc (⟨[t.cells],[],[]⟩:Heap).boxes.length (⟨[t.cells],[],[]⟩:Heap).toks.length (shutA (.bool b)) ⟨[t.cells],[],[]⟩=⟨[t.cells],[],[]⟩from rfl,show shutA (.bool b)=.bool b from rfl]at h0
 exact let ζ1:Heap:={boxes:=[t.cells],toks:=[],loops:=[]:Heap};goG 60 [] trivial (.effY (show Does cfg (.call (.c (.func (201:FuncId) [])) (List.map .c [.sl .sh (l.map encL),.func (202:FuncId) [.ptr 0 0]])) ζ1 (.bool b) ζ1 from h0)<|.fin ((.ret (.bool b),{boxes:=[[.str t.key,.str t.val,.bool t.hard]],toks:=[],loops:=[]:Heap})) rfl) (by kernel_rfl)
def worstB(l:List Tol)(t:List Taint):Option Taint:=t.find? fun x=>x.hard&& !bearsB l x
theorem worst_loop(l:List Tol)(t:List Taint)(hl:l.length<9223372036854775807)(hn:t.length<9223372036854775807):∀(post:List Taint)(i:Nat)(bs:List (List AV))(hd:t.drop i=post)(T:Env)
 (hT:Has T [(0,.sl .sh (l.map encL)),(4,.ptr 0 0),(8,.sl .sh (t.map encT)),(9,.int .i64 t.length),(10,.int .i64 i)]),
 Goes cfg a82 k82_0 T ⟨[.str [],.str [],.bool false]::bs,[],[]⟩ (IsRet (worstV (worstB l post))):=by
 intro post
 induction post with
 |nil=>
  intro i bs hd T hT
  have hge:=drop_ge hd
  exact let ζ1:Heap:={boxes:=[.str [],.str [],.bool false]::bs,toks:=[],loops:=[]:Heap};goG 60 _ hT (.no (decide_eq_false (p:=(↑i:Int)<(↑t.length:Int)) (by omega))<|.store (show storeA 3 ζ1 (.ptr 0 0) (.agg [.str [],.str [],.bool false])=some (ζ1)from store_box2 (cs:=[.str [],.str [],.bool false]) (cs':=[.str [],.str [],.bool false]) (by simp+zetaDelta) rfl (by simp+zetaDelta [List.set_append]))<|.fin ((.ret (.tuple [.agg [.str [],.str [],.bool false],.bool false]),ζ1)) rfl) (by kernel_rfl)
 |cons x post ih=>
  intro i bs hd T hT
  have hlt:=drop_lt hd
  have hnx:=drop_next hd
  have hb:=bears_any l x hl
  have ih':=ih (i+1) (bs++[x.cells]) hnx
  cases hh:x.hard with
  |false=>
   have e:worstB l (x::post)=worstB l post:=by simp[worstB,List.find?_cons,hh]
   rw[e]
   exact let ζ1:List AV:=[.str x.key,.str x.val,.bool x.hard];let ζ2:Heap:={boxes:=[.str [],.str [],.bool false]::(bs++[ζ1]),toks:=[],loops:=[]:Heap};goG 90 _ hT (.yes (decide_eq_true (p:=(↑i:Int)<(↑t.length:Int)) (by omega))<|.idx (show idxA 3 (.sl .sh (t.map encT)) (.int .i64 ↑i)=some (.ref (encT x).cells)from idx_row hd (by rfl))<|.load (rfl:loadA true 3 {boxes:=[.str [],.str [],.bool false]::bs,toks:=[],loops:=[]:Heap} (.ref ζ1)=some (.agg ζ1))<|.store (show storeA 3 {boxes:=[.str [],.str [],.bool false]::(bs++[[AV.str [],.str [],.bool false]]),toks:=[],loops:=[]:Heap} (.ptr ([.str [],.str [],.bool false]::bs).length (0:Nat)) (.agg ζ1)=some (ζ2)from store_box2 (cs:=[.str [],.str [],.bool false]) (cs':=ζ1) (by simp+zetaDelta) rfl (by simp+zetaDelta [List.set_append]))<|.load (show loadA false 1 ζ2 (.ptr ([.str [],.str [],.bool false]::bs).length (2:Nat))=some (.bool x.hard)from load_box (cs:=ζ1) (by simp+zetaDelta) rfl)<|.no (show(x.hard)=false from Bool.eq_false_iff.2 (by simp+zetaDelta [hh]))<|.ff<|.bin (show binA .add (.int .i64 ↑i) (.int .i64 1)=some (.int .i64 (↑(i+1)))from inc_i (by omega))<|.cutQ k82_0 [(0,.sl .sh (l.map encL)),(4,.ptr 0 0),(8,.sl .sh (t.map encT)),(9,.int .i64 (↑t.length)),(10,.int .i64 (↑(i+1)))] (ζ2) (fun T hT=>(ih' T hT))) (by kernel_rfl)
  |true=>
   cases hbb:bearsB l x with
   |true=>
    rw[hbb]at hb
    have e:worstB l (x::post)=worstB l post:=by simp[worstB,List.find?_cons,hh,hbb]
    rw[e]
    exact let ζ1:List AV:=[.str x.key,.str x.val,.bool x.hard];let ζ2:Heap:={boxes:=[.str [],.str [],.bool false]::(bs++[ζ1]),toks:=[],loops:=[]:Heap};goG 90 _ hT (.yes (decide_eq_true (p:=(↑i:Int)<(↑t.length:Int)) (by omega))<|.idx (show idxA 3 (.sl .sh (t.map encT)) (.int .i64 ↑i)=some (.ref (encT x).cells)from idx_row hd (by rfl))<|.load (rfl:loadA true 3 {boxes:=[.str [],.str [],.bool false]::bs,toks:=[],loops:=[]:Heap} (.ref ζ1)=some (.agg ζ1))<|.store (show storeA 3 {boxes:=[.str [],.str [],.bool false]::(bs++[[AV.str [],.str [],.bool false]]),toks:=[],loops:=[]:Heap} (.ptr ([.str [],.str [],.bool false]::bs).length (0:Nat)) (.agg ζ1)=some (ζ2)from store_box2 (cs:=[.str [],.str [],.bool false]) (cs':=ζ1) (by simp+zetaDelta) rfl (by simp+zetaDelta [List.set_append]))<|.load (show loadA false 1 ζ2 (.ptr ([.str [],.str [],.bool false]::bs).length (2:Nat))=some (.bool x.hard)from load_box (cs:=ζ1) (by simp+zetaDelta) rfl)<|.yes (show(x.hard)=true from(by omega))<|.load (show loadA true 3 ζ2 (.ptr ([.str [],.str [],.bool false]::bs).length (0:Nat))=some (.agg ζ1)from load_box (cs:=ζ1) (by simp+zetaDelta) rfl)<|.callI hb<|.ff<|.bin (show binA .add (.int .i64 ↑i) (.int .i64 1)=some (.int .i64 (↑(i+1)))from inc_i (by omega))<|.cutQ k82_0 [(0,.sl .sh (l.map encL)),(4,.ptr 0 0),(8,.sl .sh (t.map encT)),(9,.int .i64 (↑t.length)),(10,.int .i64 (↑(i+1)))] (ζ2) (fun T hT=>(ih' T hT))) (by kernel_rfl)
   |false=>
    rw[hbb]at hb
    have e:worstB l (x::post)=some x:=by simp[worstB,List.find?_cons,hh,hbb]
    rw[e]
    exact let ζ1:List AV:=[.str x.key,.str x.val,.bool x.hard];let ζ2:Heap:={boxes:=[.str [],.str [],.bool false]::(bs++[ζ1]),toks:=[],loops:=[]:Heap};let ζ3:Heap:={boxes:=ζ1::(bs++[ζ1]),toks:=[],loops:=[]:Heap};goG 90 _ hT (.yes (decide_eq_true (p:=(↑i:Int)<(↑t.length:Int)) (by omega))<|.idx (show idxA 3 (.sl .sh (t.map encT)) (.int .i64 ↑i)=some (.ref (encT x).cells)from idx_row hd (by rfl))<|.load (rfl:loadA true 3 {boxes:=[.str [],.str [],.bool false]::bs,toks:=[],loops:=[]:Heap} (.ref ζ1)=some (.agg ζ1))<|.store (show storeA 3 {boxes:=[.str [],.str [],.bool false]::(bs++[[AV.str [],.str [],.bool false]]),toks:=[],loops:=[]:Heap} (.ptr ([.str [],.str [],.bool false]::bs).length (0:Nat)) (.agg ζ1)=some (ζ2)from store_box2 (cs:=[.str [],.str [],.bool false]) (cs':=ζ1) (by simp+zetaDelta) rfl (by simp+zetaDelta [List.set_append]))<|.load (show loadA false 1 ζ2 (.ptr ([.str [],.str [],.bool false]::bs).length (2:Nat))=some (.bool x.hard)from load_box (cs:=ζ1) (by simp+zetaDelta) rfl)<|.yes (show(x.hard)=true from(by omega))<|.load (show loadA true 3 ζ2 (.ptr ([.str [],.str [],.bool false]::bs).length (0:Nat))=some (.agg ζ1)from load_box (cs:=ζ1) (by simp+zetaDelta) rfl)<|.callI hb<|.tt<|.load (show loadA true 3 ζ2 (.ptr ([.str [],.str [],.bool false]::bs).length (0:Nat))=some (.agg ζ1)from load_box (cs:=ζ1) (by simp+zetaDelta) rfl)<|.store (show storeA 3 ζ2 (.ptr 0 0) (.agg ζ1)=some (ζ3)from store_box2 (cs:=[.str [],.str [],.bool false]) (cs':=ζ1) (by simp+zetaDelta) rfl (by simp+zetaDelta [List.set_append]))<|.fin ((.ret (.tuple [.agg ζ1,.bool true]),ζ3)) rfl) (by kernel_rfl)
theorem worst_any(l:List Tol)(t:List Taint)(hl:l.length<9223372036854775807)(hn:t.length<9223372036854775807):Gives cfg 82 [.sl .sh (l.map encL),.sl .sh (t.map encT)] (worstV (worstB l t)):=by
 refine Gives.run (l82 _ _) ?_
 have h:=worst_loop l t hl hn t 0 [] rfl
 exact goG 60 [] trivial (.len (show lenA false (.sl .sh (t.map encT))=some (.int .i64 (↑t.length))from len_map _)<|.cutQ k82_0 [(0,.sl .sh (l.map encL)),(4,.ptr 0 0),(8,.sl .sh (t.map encT)),(9,.int .i64 (↑t.length)),(10,.int .i64 0)] ({boxes:=[[.str [],.str [],.bool false]],toks:=[],loops:=[]:Heap}) (fun T hT=>(h T hT))) (by kernel_rfl)
end Go.Aa.T
set_option linter.unusedVariables false
set_option linter.unusedSimpArgs false
set_option maxRecDepth 100000
namespace Go.Aa.T
open Go.Aa Go.Proofs
theorem must_ok(e:Int):Gives cfg 80 [.bool true,.int .i64 e] (.tuple []):=by
 refine Gives.run (l80 _ _) ?_
 exact goG 60 [] trivial (.ff<|.fin ((.ret (.tuple []),{boxes:=[],toks:=[],loops:=[]:Heap})) rfl) (by kernel_rfl)
theorem must_no{e:Int}(he:¬e=0):Pans cfg 80 [.bool false,.int .i64 e] (stopV e):=by
 have h:=stop_pan he
 refine Pans.run (l80 _ _) ?_
 exact goG 60 [] trivial (.tt<|.callP ([.int .i64 e]) ({boxes:=[],toks:=[],loops:=[]:Heap}) (show Pans cfg (101:FuncId) [.int .i64 e] (stopV e)from h) ⟨rfl,rfl⟩ rfl rfl) (by kernel_rfl)
theorem freeS_len(s:St)(hs:StIn s)(nd:List UInt8):(freeS s nd).1.length≤8:=by
 unfold freeS freeG
 split
 ·refine(subV_rg ?_).2
  unfold capOf
  split
  ·exact fun x hx=>by cases hx
  ·rename_i n hf;exact(hs.cap n (findG_mem hf)).rg
 ·simp
theorem drop_inF{s:St}(h:StIn s)(nm:List UInt8):StIn (dropS s nm):=by
 have l:=off_len nm s.pods
 exact⟨h.nodes,by show(offP nm s.pods).length≤_;have:=h.pods;omega,h.cap,fun p hp=>h.need p (off_mem hp).1⟩
def fitG(s:St)(p:Pod)(nm:List UInt8)(sk:Int)(ok:Bool):Int:=match findG Node.name s.nodes nm with
 |none=>3
 |some n=>if(!n.cordon&&matchB n.labels p.sel)=true then(if(worstB p.tols n.taints).isSome=true then 9 else
   (if(ok&&(p.key==[]||decide (sk≤p.most)))=true then(if(decide ((freeS s nm).2=0)&&fitsV p.need (freeS s nm).1)=true then 0 else 7)else 10))else 8
structure PdIn(p:Pod):Prop where
 need:p.need.length<9223372036854775807
 labels:p.labels.length<9223372036854775807
 sel:p.sel.length<9223372036854775807
 tols:p.tols.length<9223372036854775807
structure NdIn(n:Node):Prop where
 labels:n.labels.length<9223372036854775807
 taints:n.taints.length<9223372036854775807
theorem fit_all(s:St)(hs:StIn s)(hn:∀n∈s.nodes,NdIn n)(p:Pod)(hp:PdIn p)(nm:List UInt8)(sk:Int)(ok:Bool)
 (h83:Gives cfg 83 [encSt s,encPd p,.str nm] (.tuple [.int .i64 sk,.bool ok])):
 Goes cfg a78 [.c c78] (initEnv [.ptr 0 0,.ptr 2 0,.ptr 1 0]) ⟨[(encSt s).cells,(encPd p).cells,[.str nm]],[],[]⟩ (ChkR (fitG s p nm sk ok)):=by
 have f:=findN_any s.nodes nm hs.nodes
 unfold fitG
 cases hf:findG Node.name s.nodes nm with
 |none=>
  rw[hf]at f
  simp only
  have m3:Pans cfg 80 [.bool false,.int .i64 3] (stopV 3):=must_no (by decide)
  exact let ζ1:List AV:=[.str [],.sl .sh [],.sl .sh [],.sl .sh [],.bool false];let ζ2:List AV:=[.sl .sh (s.nodes.map encN),.str nm];goG 120 [] trivial (.callK (ζ2) (.tuple [.agg ζ1,.bool false]) (show Gives cfg (79:FuncId) ζ2 (findNV none)from f)<|.callP ([.bool false,.int .i64 3]) ({boxes:=[[.sl .sh (s.nodes.map encN),.sl .sh (s.pods.map encPd),.sl .sh (s.buds.map encB)],[.str p.name,.str p.owner,.int .i64 p.prio,.sl .sh (p.need.map encA),.sl .sh (p.labels.map encP),.sl .sh (p.sel.map encM),.sl .sh (p.tols.map encL),.str p.key,.int .i64 p.most,.str p.node,.bool p.hold],[.str nm],ζ1],toks:=[],loops:=[]:Heap}) (show Pans cfg (80:FuncId) [.bool false,.int .i64 3] (stopV (3:Int))from m3) ⟨rfl,rfl⟩ rfl (by exact .inr ⟨by decide,rfl⟩)) (by kernel_rfl)
 |some n=>
  rw[hf]at f
  have hni:=hn n (findG_mem hf)
  have mt:=match_any n.labels p.sel hni.labels hp.sel
  have m8:Pans cfg 80 [.bool false,.int .i64 8] (stopV 8):=must_no (by decide)
  simp only
  cases hc:n.cordon with
  |true=>
   rw[if_neg (by simp)]
   exact let ζ1:List AV:=[.str n.name,.sl .sh (n.cap.map encA),.sl .sh (n.labels.map encP),.sl .sh (n.taints.map encT),.bool n.cordon];let ζ2:List AV:=[.sl .sh (s.nodes.map encN),.str nm];goG 160 [] trivial (.callK (ζ2) (.tuple [.agg ζ1,.bool true]) (show Gives cfg (79:FuncId) ζ2 (findNV (some n))from f)<|.callI (show Gives cfg (80:FuncId) [.bool true,.int .i64 3] (.tuple [])from must_ok _)<|.no (show(!n.cordon)=false from by have hh:n.cordon=true:=(by exact hc);simp[hh])<|.callP ([.bool false,.int .i64 8]) ({boxes:=[[.sl .sh (s.nodes.map encN),.sl .sh (s.pods.map encPd),.sl .sh (s.buds.map encB)],[.str p.name,.str p.owner,.int .i64 p.prio,.sl .sh (p.need.map encA),.sl .sh (p.labels.map encP),.sl .sh (p.sel.map encM),.sl .sh (p.tols.map encL),.str p.key,.int .i64 p.most,.str p.node,.bool p.hold],[.str nm],ζ1],toks:=[],loops:=[]:Heap}) (show Pans cfg (80:FuncId) [.bool false,.int .i64 8] (stopV (8:Int))from m8) ⟨rfl,rfl⟩ rfl (by exact .inr ⟨by decide,rfl⟩)) (by kernel_rfl)
  |false=>
   cases hm:matchB n.labels p.sel with
   |false=>
    rw[hm]at mt
    rw[if_neg (by simp)]
    exact let ζ1:List AV:=[.str n.name,.sl .sh (n.cap.map encA),.sl .sh (n.labels.map encP),.sl .sh (n.taints.map encT),.bool n.cordon];let ζ2:List AV:=[.sl .sh (p.sel.map encM),.sl .sh (n.labels.map encP)];let ζ3:List AV:=[.sl .sh (s.nodes.map encN),.str nm];goG 160 [] trivial (.callK (ζ3) (.tuple [.agg ζ1,.bool true]) (show Gives cfg (79:FuncId) ζ3 (findNV (some n))from f)<|.callI (show Gives cfg (80:FuncId) [.bool true,.int .i64 3] (.tuple [])from must_ok _)<|.yes (show(!n.cordon)=true from by have hh:¬(n.cordon=true):=(by simp+zetaDelta [hc]);simp[hh])<|.callK (ζ2) (.bool false) (show Gives cfg (81:FuncId) ζ2 (.bool false)from mt)<|.callP ([.bool false,.int .i64 8]) ({boxes:=[[.sl .sh (s.nodes.map encN),.sl .sh (s.pods.map encPd),.sl .sh (s.buds.map encB)],[.str p.name,.str p.owner,.int .i64 p.prio,.sl .sh (p.need.map encA),.sl .sh (p.labels.map encP),.sl .sh (p.sel.map encM),.sl .sh (p.tols.map encL),.str p.key,.int .i64 p.most,.str p.node,.bool p.hold],[.str nm],ζ1],toks:=[],loops:=[]:Heap}) (show Pans cfg (80:FuncId) [.bool false,.int .i64 8] (stopV (8:Int))from m8) ⟨rfl,rfl⟩ rfl (by exact .inr ⟨by decide,rfl⟩)) (by kernel_rfl)
   |true=>
    rw[hm]at mt
    rw[if_pos (by simp)]
    have w:=worst_any p.tols n.taints hp.tols hni.taints
    cases hw:worstB p.tols n.taints with
    |some x=>
     rw[hw]at w
     have w:Gives cfg 82 [.sl .sh (p.tols.map encL),.sl .sh (n.taints.map encT)] (.tuple [encT x,.bool true]):=w
     rw[if_pos (show(some x).isSome=true from rfl)]
     have m9:Pans cfg 80 [.bool false,.int .i64 9] (stopV 9):=must_no (by decide)
     exact let ζ1:List AV:=[.str n.name,.sl .sh (n.cap.map encA),.sl .sh (n.labels.map encP),.sl .sh (n.taints.map encT),.bool n.cordon];let ζ2:List AV:=[.sl .sh (p.tols.map encL),.sl .sh (n.taints.map encT)];let ζ3:List AV:=[.sl .sh (p.sel.map encM),.sl .sh (n.labels.map encP)];let ζ4:List AV:=[.sl .sh (s.nodes.map encN),.str nm];let ζ5:List AV:=[.str x.key,.str x.val,.bool x.hard];goG 160 [] trivial (.callK (ζ4) (.tuple [.agg ζ1,.bool true]) (show Gives cfg (79:FuncId) ζ4 (findNV (some n))from f)<|.callI (show Gives cfg (80:FuncId) [.bool true,.int .i64 3] (.tuple [])from must_ok _)<|.yes (show(!n.cordon)=true from by have hh:¬(n.cordon=true):=(by simp+zetaDelta [hc]);simp[hh])<|.callK (ζ3) (.bool true) (show Gives cfg (81:FuncId) ζ3 (.bool true)from mt)<|.callI (show Gives cfg (80:FuncId) [.bool true,.int .i64 8] (.tuple [])from must_ok _)<|.callK (ζ2) (.tuple [.agg ζ5,.bool true]) (show Gives cfg (82:FuncId) ζ2 (.tuple [encT x,.bool true])from w)<|.callP ([.bool !true,.int .i64 9]) ({boxes:=[[.sl .sh (s.nodes.map encN),.sl .sh (s.pods.map encPd),.sl .sh (s.buds.map encB)],[.str p.name,.str p.owner,.int .i64 p.prio,.sl .sh (p.need.map encA),.sl .sh (p.labels.map encP),.sl .sh (p.sel.map encM),.sl .sh (p.tols.map encL),.str p.key,.int .i64 p.most,.str p.node,.bool p.hold],[.str nm],ζ1,ζ5],toks:=[],loops:=[]:Heap}) (show Pans cfg (80:FuncId) [.bool false,.int .i64 9] (stopV (9:Int))from m9) ⟨rfl,rfl⟩ rfl (by exact .inr ⟨by decide,rfl⟩)) (by kernel_rfl)
    |none=>
     rw[hw]at w
     have w:Gives cfg 82 [.sl .sh (p.tols.map encL),.sl .sh (n.taints.map encT)] (.tuple [encT noT,.bool false]):=w
     rw[if_neg (by simp)]
     have m10:Pans cfg 80 [.bool false,.int .i64 10] (stopV 10):=must_no (by decide)
     have m7:Pans cfg 80 [.bool false,.int .i64 7] (stopV 7):=must_no (by decide)
     obtain⟨c,fr⟩:=free_any s nm hs
     have fi:=freeS_len s hs nm
     have ft:=fits_any p.need (freeS s nm).1 hp.need (by omega)
     generalize freeS s nm=u at fr ft fi⊢
     obtain⟨u,e⟩:=u
     have fr:Gives cfg 37 [encSt s,.str nm] (resW c u e):=fr
     have ft:Gives cfg 58 [.sl .sh (p.need.map encA),.sl .sh (u.map encA)] (.bool (fitsV p.need u)):=ft
     simp only
     generalize fitsV p.need u=b at ft⊢
     cases ok with
     |false=>
      rw[if_neg (by simp)]
      exact let ζ1:List AV:=[.str p.name,.str p.owner,.int .i64 p.prio,.sl .sh (p.need.map encA),.sl .sh (p.labels.map encP),.sl .sh (p.sel.map encM),.sl .sh (p.tols.map encL),.str p.key,.int .i64 p.most,.str p.node,.bool p.hold];let ζ2:List AV:=[.str n.name,.sl .sh (n.cap.map encA),.sl .sh (n.labels.map encP),.sl .sh (n.taints.map encT),.bool n.cordon];let ζ3:List AV:=[.sl .sh (s.nodes.map encN),.sl .sh (s.pods.map encPd),.sl .sh (s.buds.map encB)];let ζ4:List AV:=[.sl .sh (p.tols.map encL),.sl .sh (n.taints.map encT)];let ζ5:List AV:=[.sl .sh (p.sel.map encM),.sl .sh (n.labels.map encP)];let ζ6:List AV:=[.sl .sh (s.nodes.map encN),.str nm];let ζ7:List AV:=[.str [],.str [],.bool noT.hard];goG 200 [] trivial (.callK (ζ6) (.tuple [.agg ζ2,.bool true]) (show Gives cfg (79:FuncId) ζ6 (findNV (some n))from f)<|.callI (show Gives cfg (80:FuncId) [.bool true,.int .i64 3] (.tuple [])from must_ok _)<|.yes (show(!n.cordon)=true from by have hh:¬(n.cordon=true):=(by simp+zetaDelta [hc]);simp[hh])<|.callK (ζ5) (.bool true) (show Gives cfg (81:FuncId) ζ5 (.bool true)from mt)<|.callI (show Gives cfg (80:FuncId) [.bool true,.int .i64 8] (.tuple [])from must_ok _)<|.callK (ζ4) (.tuple [.agg ζ7,.bool false]) (show Gives cfg (82:FuncId) ζ4 (.tuple [encT noT,.bool false])from w)<|.callK ([.bool !false,.int .i64 9]) (.tuple []) (show Gives cfg (80:FuncId) [.bool true,.int .i64 9] (.tuple [])from must_ok _)<|.callI h83<|.ff<|.callP ([.bool false,.int .i64 10]) ({boxes:=[ζ3,ζ1,[.str nm],ζ2,ζ7],toks:=[],loops:=[]:Heap}) (show Pans cfg (80:FuncId) [.bool false,.int .i64 10] (stopV (10:Int))from m10) ⟨rfl,rfl⟩ rfl (by exact .inr ⟨by decide,rfl⟩)) (by kernel_rfl)
     |true=>
      by_cases hk:p.key=[]
      ·rw[if_pos (by simp[hk])]
       by_cases he:e=0
       ·cases b with
        |true=>
         rw[if_pos (by simp[he])]
         exact let ζ1:List AV:=[.str p.name,.str p.owner,.int .i64 p.prio,.sl .sh (p.need.map encA),.sl .sh (p.labels.map encP),.sl .sh (p.sel.map encM),.sl .sh (p.tols.map encL),.str p.key,.int .i64 p.most,.str p.node,.bool p.hold];let ζ2:List AV:=[.sl .sh (s.nodes.map encN),.sl .sh (s.pods.map encPd),.sl .sh (s.buds.map encB)];let ζ3:List AV:=[.str n.name,.sl .sh (n.cap.map encA),.sl .sh (n.labels.map encP),.sl .sh (n.taints.map encT),.bool n.cordon];let ζ4:List AV:=[.sl .sh (p.tols.map encL),.sl .sh (n.taints.map encT)];let ζ5:List AV:=[.sl .sh (p.sel.map encM),.sl .sh (n.labels.map encP)];let ζ6:List AV:=[.sl .sh (p.need.map encA),.sl .sh (u.map encA)];let ζ7:List AV:=[.sl .sh (s.nodes.map encN),.str nm];let ζ8:List AV:=[.str [],.str [],.bool noT.hard];goG 240 [] trivial (.callK (ζ7) (.tuple [.agg ζ3,.bool true]) (show Gives cfg (79:FuncId) ζ7 (findNV (some n))from f)<|.callI (show Gives cfg (80:FuncId) [.bool true,.int .i64 3] (.tuple [])from must_ok _)<|.yes (show(!n.cordon)=true from by have hh:¬(n.cordon=true):=(by simp+zetaDelta [hc]);simp[hh])<|.callK (ζ5) (.bool true) (show Gives cfg (81:FuncId) ζ5 (.bool true)from mt)<|.callI (show Gives cfg (80:FuncId) [.bool true,.int .i64 8] (.tuple [])from must_ok _)<|.callK (ζ4) (.tuple [.agg ζ8,.bool false]) (show Gives cfg (82:FuncId) ζ4 (.tuple [encT noT,.bool false])from w)<|.callK ([.bool !false,.int .i64 9]) (.tuple []) (show Gives cfg (80:FuncId) [.bool true,.int .i64 9] (.tuple [])from must_ok _)<|.callI h83<|.tt<|.yes (show(p.key==[])=true from(by simp+zetaDelta [hk]))<|.callI (show Gives cfg (80:FuncId) [.bool true,.int .i64 10] (.tuple [])from must_ok _)<|.callG ([.agg ζ2,.str nm]) (.tuple [.sl .sh (u.map encA),.int .i64 e]) (show Gives cfg (37:FuncId) [encSt s,.str nm] (resW c u e)from fr) ⟨rfl,rfl⟩ Res.p<|.yes (show(e==(0:Int))=true from(by simp+zetaDelta [he]))<|.callK (ζ6) (.bool true) (show Gives cfg (58:FuncId) ζ6 (.bool true)from ft)<|.callI (show Gives cfg (80:FuncId) [.bool true,.int .i64 7] (.tuple [])from must_ok _)<|.fin ((.ret (.tuple []),{boxes:=[ζ2,ζ1,[.str nm],ζ3,ζ8],toks:=[],loops:=[]:Heap})) (by exact .inl ⟨rfl,rfl⟩)) (by kernel_rfl)
        |false=>
         rw[if_neg (by simp)]
         exact let ζ1:List AV:=[.str p.name,.str p.owner,.int .i64 p.prio,.sl .sh (p.need.map encA),.sl .sh (p.labels.map encP),.sl .sh (p.sel.map encM),.sl .sh (p.tols.map encL),.str p.key,.int .i64 p.most,.str p.node,.bool p.hold];let ζ2:List AV:=[.sl .sh (s.nodes.map encN),.sl .sh (s.pods.map encPd),.sl .sh (s.buds.map encB)];let ζ3:List AV:=[.str n.name,.sl .sh (n.cap.map encA),.sl .sh (n.labels.map encP),.sl .sh (n.taints.map encT),.bool n.cordon];let ζ4:List AV:=[.sl .sh (p.tols.map encL),.sl .sh (n.taints.map encT)];let ζ5:List AV:=[.sl .sh (p.sel.map encM),.sl .sh (n.labels.map encP)];let ζ6:List AV:=[.sl .sh (p.need.map encA),.sl .sh (u.map encA)];let ζ7:List AV:=[.sl .sh (s.nodes.map encN),.str nm];let ζ8:List AV:=[.str [],.str [],.bool noT.hard];goG 240 [] trivial (.callK (ζ7) (.tuple [.agg ζ3,.bool true]) (show Gives cfg (79:FuncId) ζ7 (findNV (some n))from f)<|.callI (show Gives cfg (80:FuncId) [.bool true,.int .i64 3] (.tuple [])from must_ok _)<|.yes (show(!n.cordon)=true from by have hh:¬(n.cordon=true):=(by simp+zetaDelta [hc]);simp[hh])<|.callK (ζ5) (.bool true) (show Gives cfg (81:FuncId) ζ5 (.bool true)from mt)<|.callI (show Gives cfg (80:FuncId) [.bool true,.int .i64 8] (.tuple [])from must_ok _)<|.callK (ζ4) (.tuple [.agg ζ8,.bool false]) (show Gives cfg (82:FuncId) ζ4 (.tuple [encT noT,.bool false])from w)<|.callK ([.bool !false,.int .i64 9]) (.tuple []) (show Gives cfg (80:FuncId) [.bool true,.int .i64 9] (.tuple [])from must_ok _)<|.callI h83<|.tt<|.yes (show(p.key==[])=true from(by simp+zetaDelta [hk]))<|.callI (show Gives cfg (80:FuncId) [.bool true,.int .i64 10] (.tuple [])from must_ok _)<|.callG ([.agg ζ2,.str nm]) (.tuple [.sl .sh (u.map encA),.int .i64 e]) (show Gives cfg (37:FuncId) [encSt s,.str nm] (resW c u e)from fr) ⟨rfl,rfl⟩ Res.p<|.yes (show(e==(0:Int))=true from(by simp+zetaDelta [he]))<|.callK (ζ6) (.bool false) (show Gives cfg (58:FuncId) ζ6 (.bool false)from ft)<|.callP ([.bool false,.int .i64 7]) ({boxes:=[ζ2,ζ1,[.str nm],ζ3,ζ8],toks:=[],loops:=[]:Heap}) (show Pans cfg (80:FuncId) [.bool false,.int .i64 7] (stopV (7:Int))from m7) ⟨rfl,rfl⟩ rfl (by exact .inr ⟨by decide,rfl⟩)) (by kernel_rfl)
       ·rw[if_neg (by simp[he])]
        exact let ζ1:List AV:=[.str p.name,.str p.owner,.int .i64 p.prio,.sl .sh (p.need.map encA),.sl .sh (p.labels.map encP),.sl .sh (p.sel.map encM),.sl .sh (p.tols.map encL),.str p.key,.int .i64 p.most,.str p.node,.bool p.hold];let ζ2:List AV:=[.sl .sh (s.nodes.map encN),.sl .sh (s.pods.map encPd),.sl .sh (s.buds.map encB)];let ζ3:List AV:=[.str n.name,.sl .sh (n.cap.map encA),.sl .sh (n.labels.map encP),.sl .sh (n.taints.map encT),.bool n.cordon];let ζ4:List AV:=[.sl .sh (p.tols.map encL),.sl .sh (n.taints.map encT)];let ζ5:List AV:=[.sl .sh (p.sel.map encM),.sl .sh (n.labels.map encP)];let ζ6:List AV:=[.sl .sh (s.nodes.map encN),.str nm];let ζ7:List AV:=[.str [],.str [],.bool noT.hard];goG 240 [] trivial (.callK (ζ6) (.tuple [.agg ζ3,.bool true]) (show Gives cfg (79:FuncId) ζ6 (findNV (some n))from f)<|.callI (show Gives cfg (80:FuncId) [.bool true,.int .i64 3] (.tuple [])from must_ok _)<|.yes (show(!n.cordon)=true from by have hh:¬(n.cordon=true):=(by simp+zetaDelta [hc]);simp[hh])<|.callK (ζ5) (.bool true) (show Gives cfg (81:FuncId) ζ5 (.bool true)from mt)<|.callI (show Gives cfg (80:FuncId) [.bool true,.int .i64 8] (.tuple [])from must_ok _)<|.callK (ζ4) (.tuple [.agg ζ7,.bool false]) (show Gives cfg (82:FuncId) ζ4 (.tuple [encT noT,.bool false])from w)<|.callK ([.bool !false,.int .i64 9]) (.tuple []) (show Gives cfg (80:FuncId) [.bool true,.int .i64 9] (.tuple [])from must_ok _)<|.callI h83<|.tt<|.yes (show(p.key==[])=true from(by simp+zetaDelta [hk]))<|.callI (show Gives cfg (80:FuncId) [.bool true,.int .i64 10] (.tuple [])from must_ok _)<|.callG ([.agg ζ2,.str nm]) (.tuple [.sl .sh (u.map encA),.int .i64 e]) (show Gives cfg (37:FuncId) [encSt s,.str nm] (resW c u e)from fr) ⟨rfl,rfl⟩ Res.p<|.no (show(e==(0:Int))=false from Bool.eq_false_iff.2 (by simp+zetaDelta [he]))<|.callP ([.bool false,.int .i64 7]) ({boxes:=[ζ2,ζ1,[.str nm],ζ3,ζ7],toks:=[],loops:=[]:Heap}) (show Pans cfg (80:FuncId) [.bool false,.int .i64 7] (stopV (7:Int))from m7) ⟨rfl,rfl⟩ rfl (by exact .inr ⟨by decide,rfl⟩)) (by kernel_rfl)
      ·by_cases hq:sk≤p.most
       ·have mq:Gives cfg 80 [.bool (decide (sk≤p.most)),.int .i64 10] (.tuple []):=by
         rw[show decide (sk≤p.most)=true by simpa using hq];exact must_ok 10
        rw[if_pos (by simp[hq])]
        by_cases he:e=0
        ·cases b with
         |true=>
          rw[if_pos (by simp[he])]
          exact let ζ1:List AV:=[.str p.name,.str p.owner,.int .i64 p.prio,.sl .sh (p.need.map encA),.sl .sh (p.labels.map encP),.sl .sh (p.sel.map encM),.sl .sh (p.tols.map encL),.str p.key,.int .i64 p.most,.str p.node,.bool p.hold];let ζ2:List AV:=[.sl .sh (s.nodes.map encN),.sl .sh (s.pods.map encPd),.sl .sh (s.buds.map encB)];let ζ3:List AV:=[.str n.name,.sl .sh (n.cap.map encA),.sl .sh (n.labels.map encP),.sl .sh (n.taints.map encT),.bool n.cordon];let ζ4:List AV:=[.sl .sh (p.tols.map encL),.sl .sh (n.taints.map encT)];let ζ5:List AV:=[.sl .sh (p.sel.map encM),.sl .sh (n.labels.map encP)];let ζ6:List AV:=[.sl .sh (p.need.map encA),.sl .sh (u.map encA)];let ζ7:List AV:=[.bool (decide (sk≤p.most)),.int .i64 10];let ζ8:List AV:=[.sl .sh (s.nodes.map encN),.str nm];let ζ9:List AV:=[.str [],.str [],.bool noT.hard];goG 240 [] trivial (.callK (ζ8) (.tuple [.agg ζ3,.bool true]) (show Gives cfg (79:FuncId) ζ8 (findNV (some n))from f)<|.callI (show Gives cfg (80:FuncId) [.bool true,.int .i64 3] (.tuple [])from must_ok _)<|.yes (show(!n.cordon)=true from by have hh:¬(n.cordon=true):=(by simp+zetaDelta [hc]);simp[hh])<|.callK (ζ5) (.bool true) (show Gives cfg (81:FuncId) ζ5 (.bool true)from mt)<|.callI (show Gives cfg (80:FuncId) [.bool true,.int .i64 8] (.tuple [])from must_ok _)<|.callK (ζ4) (.tuple [.agg ζ9,.bool false]) (show Gives cfg (82:FuncId) ζ4 (.tuple [encT noT,.bool false])from w)<|.callK ([.bool !false,.int .i64 9]) (.tuple []) (show Gives cfg (80:FuncId) [.bool true,.int .i64 9] (.tuple [])from must_ok _)<|.callI h83<|.tt<|.no (show(p.key==[])=false from Bool.eq_false_iff.2 (by simp+zetaDelta [hk]))<|.callK (ζ7) (.tuple []) (show Gives cfg (80:FuncId) ζ7 (.tuple [])from mq)<|.callG ([.agg ζ2,.str nm]) (.tuple [.sl .sh (u.map encA),.int .i64 e]) (show Gives cfg (37:FuncId) [encSt s,.str nm] (resW c u e)from fr) ⟨rfl,rfl⟩ Res.p<|.yes (show(e==(0:Int))=true from(by simp+zetaDelta [he]))<|.callK (ζ6) (.bool true) (show Gives cfg (58:FuncId) ζ6 (.bool true)from ft)<|.callI (show Gives cfg (80:FuncId) [.bool true,.int .i64 7] (.tuple [])from must_ok _)<|.fin ((.ret (.tuple []),{boxes:=[ζ2,ζ1,[.str nm],ζ3,ζ9],toks:=[],loops:=[]:Heap})) (by exact .inl ⟨rfl,rfl⟩)) (by kernel_rfl)
         |false=>
          rw[if_neg (by simp)]
          exact let ζ1:List AV:=[.str p.name,.str p.owner,.int .i64 p.prio,.sl .sh (p.need.map encA),.sl .sh (p.labels.map encP),.sl .sh (p.sel.map encM),.sl .sh (p.tols.map encL),.str p.key,.int .i64 p.most,.str p.node,.bool p.hold];let ζ2:List AV:=[.sl .sh (s.nodes.map encN),.sl .sh (s.pods.map encPd),.sl .sh (s.buds.map encB)];let ζ3:List AV:=[.str n.name,.sl .sh (n.cap.map encA),.sl .sh (n.labels.map encP),.sl .sh (n.taints.map encT),.bool n.cordon];let ζ4:List AV:=[.sl .sh (p.tols.map encL),.sl .sh (n.taints.map encT)];let ζ5:List AV:=[.sl .sh (p.sel.map encM),.sl .sh (n.labels.map encP)];let ζ6:List AV:=[.sl .sh (p.need.map encA),.sl .sh (u.map encA)];let ζ7:List AV:=[.bool (decide (sk≤p.most)),.int .i64 10];let ζ8:List AV:=[.sl .sh (s.nodes.map encN),.str nm];let ζ9:List AV:=[.str [],.str [],.bool noT.hard];goG 240 [] trivial (.callK (ζ8) (.tuple [.agg ζ3,.bool true]) (show Gives cfg (79:FuncId) ζ8 (findNV (some n))from f)<|.callI (show Gives cfg (80:FuncId) [.bool true,.int .i64 3] (.tuple [])from must_ok _)<|.yes (show(!n.cordon)=true from by have hh:¬(n.cordon=true):=(by simp+zetaDelta [hc]);simp[hh])<|.callK (ζ5) (.bool true) (show Gives cfg (81:FuncId) ζ5 (.bool true)from mt)<|.callI (show Gives cfg (80:FuncId) [.bool true,.int .i64 8] (.tuple [])from must_ok _)<|.callK (ζ4) (.tuple [.agg ζ9,.bool false]) (show Gives cfg (82:FuncId) ζ4 (.tuple [encT noT,.bool false])from w)<|.callK ([.bool !false,.int .i64 9]) (.tuple []) (show Gives cfg (80:FuncId) [.bool true,.int .i64 9] (.tuple [])from must_ok _)<|.callI h83<|.tt<|.no (show(p.key==[])=false from Bool.eq_false_iff.2 (by simp+zetaDelta [hk]))<|.callK (ζ7) (.tuple []) (show Gives cfg (80:FuncId) ζ7 (.tuple [])from mq)<|.callG ([.agg ζ2,.str nm]) (.tuple [.sl .sh (u.map encA),.int .i64 e]) (show Gives cfg (37:FuncId) [encSt s,.str nm] (resW c u e)from fr) ⟨rfl,rfl⟩ Res.p<|.yes (show(e==(0:Int))=true from(by simp+zetaDelta [he]))<|.callK (ζ6) (.bool false) (show Gives cfg (58:FuncId) ζ6 (.bool false)from ft)<|.callP ([.bool false,.int .i64 7]) ({boxes:=[ζ2,ζ1,[.str nm],ζ3,ζ9],toks:=[],loops:=[]:Heap}) (show Pans cfg (80:FuncId) [.bool false,.int .i64 7] (stopV (7:Int))from m7) ⟨rfl,rfl⟩ rfl (by exact .inr ⟨by decide,rfl⟩)) (by kernel_rfl)
        ·rw[if_neg (by simp[he])]
         exact let ζ1:List AV:=[.str p.name,.str p.owner,.int .i64 p.prio,.sl .sh (p.need.map encA),.sl .sh (p.labels.map encP),.sl .sh (p.sel.map encM),.sl .sh (p.tols.map encL),.str p.key,.int .i64 p.most,.str p.node,.bool p.hold];let ζ2:List AV:=[.sl .sh (s.nodes.map encN),.sl .sh (s.pods.map encPd),.sl .sh (s.buds.map encB)];let ζ3:List AV:=[.str n.name,.sl .sh (n.cap.map encA),.sl .sh (n.labels.map encP),.sl .sh (n.taints.map encT),.bool n.cordon];let ζ4:List AV:=[.sl .sh (p.tols.map encL),.sl .sh (n.taints.map encT)];let ζ5:List AV:=[.sl .sh (p.sel.map encM),.sl .sh (n.labels.map encP)];let ζ6:List AV:=[.bool (decide (sk≤p.most)),.int .i64 10];let ζ7:List AV:=[.sl .sh (s.nodes.map encN),.str nm];let ζ8:List AV:=[.str [],.str [],.bool noT.hard];goG 240 [] trivial (.callK (ζ7) (.tuple [.agg ζ3,.bool true]) (show Gives cfg (79:FuncId) ζ7 (findNV (some n))from f)<|.callI (show Gives cfg (80:FuncId) [.bool true,.int .i64 3] (.tuple [])from must_ok _)<|.yes (show(!n.cordon)=true from by have hh:¬(n.cordon=true):=(by simp+zetaDelta [hc]);simp[hh])<|.callK (ζ5) (.bool true) (show Gives cfg (81:FuncId) ζ5 (.bool true)from mt)<|.callI (show Gives cfg (80:FuncId) [.bool true,.int .i64 8] (.tuple [])from must_ok _)<|.callK (ζ4) (.tuple [.agg ζ8,.bool false]) (show Gives cfg (82:FuncId) ζ4 (.tuple [encT noT,.bool false])from w)<|.callK ([.bool !false,.int .i64 9]) (.tuple []) (show Gives cfg (80:FuncId) [.bool true,.int .i64 9] (.tuple [])from must_ok _)<|.callI h83<|.tt<|.no (show(p.key==[])=false from Bool.eq_false_iff.2 (by simp+zetaDelta [hk]))<|.callK (ζ6) (.tuple []) (show Gives cfg (80:FuncId) ζ6 (.tuple [])from mq)<|.callG ([.agg ζ2,.str nm]) (.tuple [.sl .sh (u.map encA),.int .i64 e]) (show Gives cfg (37:FuncId) [encSt s,.str nm] (resW c u e)from fr) ⟨rfl,rfl⟩ Res.p<|.no (show(e==(0:Int))=false from Bool.eq_false_iff.2 (by simp+zetaDelta [he]))<|.callP ([.bool false,.int .i64 7]) ({boxes:=[ζ2,ζ1,[.str nm],ζ3,ζ8],toks:=[],loops:=[]:Heap}) (show Pans cfg (80:FuncId) [.bool false,.int .i64 7] (stopV (7:Int))from m7) ⟨rfl,rfl⟩ rfl (by exact .inr ⟨by decide,rfl⟩)) (by kernel_rfl)
       ·have mq:Pans cfg 80 [.bool (decide (sk≤p.most)),.int .i64 10] (stopV 10):=by
         rw[show decide (sk≤p.most)=false by simpa using hq];exact m10
        rw[if_neg (by simp[hk,hq])]
        exact let ζ1:List AV:=[.str p.name,.str p.owner,.int .i64 p.prio,.sl .sh (p.need.map encA),.sl .sh (p.labels.map encP),.sl .sh (p.sel.map encM),.sl .sh (p.tols.map encL),.str p.key,.int .i64 p.most,.str p.node,.bool p.hold];let ζ2:List AV:=[.str n.name,.sl .sh (n.cap.map encA),.sl .sh (n.labels.map encP),.sl .sh (n.taints.map encT),.bool n.cordon];let ζ3:List AV:=[.sl .sh (s.nodes.map encN),.sl .sh (s.pods.map encPd),.sl .sh (s.buds.map encB)];let ζ4:List AV:=[.sl .sh (p.tols.map encL),.sl .sh (n.taints.map encT)];let ζ5:List AV:=[.sl .sh (p.sel.map encM),.sl .sh (n.labels.map encP)];let ζ6:List AV:=[.bool (decide (sk≤p.most)),.int .i64 10];let ζ7:List AV:=[.sl .sh (s.nodes.map encN),.str nm];let ζ8:List AV:=[.str [],.str [],.bool noT.hard];goG 240 [] trivial (.callK (ζ7) (.tuple [.agg ζ2,.bool true]) (show Gives cfg (79:FuncId) ζ7 (findNV (some n))from f)<|.callI (show Gives cfg (80:FuncId) [.bool true,.int .i64 3] (.tuple [])from must_ok _)<|.yes (show(!n.cordon)=true from by have hh:¬(n.cordon=true):=(by simp+zetaDelta [hc]);simp[hh])<|.callK (ζ5) (.bool true) (show Gives cfg (81:FuncId) ζ5 (.bool true)from mt)<|.callI (show Gives cfg (80:FuncId) [.bool true,.int .i64 8] (.tuple [])from must_ok _)<|.callK (ζ4) (.tuple [.agg ζ8,.bool false]) (show Gives cfg (82:FuncId) ζ4 (.tuple [encT noT,.bool false])from w)<|.callK ([.bool !false,.int .i64 9]) (.tuple []) (show Gives cfg (80:FuncId) [.bool true,.int .i64 9] (.tuple [])from must_ok _)<|.callI h83<|.tt<|.no (show(p.key==[])=false from Bool.eq_false_iff.2 (by simp+zetaDelta [hk]))<|.callP (ζ6) ({boxes:=[ζ3,ζ1,[.str nm],ζ2,ζ8],toks:=[],loops:=[]:Heap}) (show Pans cfg (80:FuncId) ζ6 (stopV (10:Int))from mq) ⟨rfl,rfl⟩ rfl (by exact .inr ⟨by decide,rfl⟩)) (by kernel_rfl)
theorem fit_gen(s:St)(hs:StIn s)(hn:∀n∈s.nodes,NdIn n)(p:Pod)(hp:PdIn p)(nm:List UInt8)(sk:Int)(ok:Bool)
 (h83:Gives cfg 83 [encSt (dropS s p.name),encPd p,.str nm] (.tuple [.int .i64 sk,.bool ok])):
 Gives cfg 21 [encSt s,encPd p,.str nm] (.int .i64 (fitG (dropS s p.name) p nm sk ok)):=by
 refine Gives.run (l21 _ _) ?_
 have dr:=drop_gives s p.name (by have:=hs.pods;omega)
 obtain⟨⟨a,H1⟩,hr,hR⟩:=fit_all (dropS s p.name) (drop_inF hs p.name) hn p hp nm sk ok h83
 generalize fitG (dropS s p.name) p nm sk ok=e at hR⊢
 generalize dropS s p.name=s2 at*
 have ht:lim cfg (.fn 77) [.func 78 [.ptr 0 0,.ptr 2 0,.ptr 1 0]] ⟨[(encSt s2).cells,(encPd p).cells,[.str nm]],[],[]⟩=some (.ret (.int .i64 e),H1):=by
  rw[lim_try rfl,l78,hr]
  rcases hR with⟨h0,h1⟩|⟨h0,h1⟩
  ·simp only at h1;subst h1;subst h0;rfl
  ·simp only at h1;subst h1;rfl
 have hd:=does_callE (xs:=[.func 78 [.ptr 0 0,.ptr 2 0,.ptr 1 0]]) (caps:=[]) ht rfl rfl
 generalize trunc _ _ _ H1=H2 at hd
 exact let ζ1:Heap:={boxes:=[[.sl .sh (s.nodes.map encN),.sl .sh (s.pods.map encPd),.sl .sh (s.buds.map encB)],[.str p.name,.str p.owner,.int .i64 p.prio,.sl .sh (p.need.map encA),.sl .sh (p.labels.map encP),.sl .sh (p.sel.map encM),.sl .sh (p.tols.map encL),.str p.key,.int .i64 p.most,.str p.node,.bool p.hold],[.str nm]],toks:=[],loops:=[]:Heap};goG 90 [] trivial (.effY (show Does cfg (.call (.c (.func (27:FuncId) [])) [.c (encSt s),.c (.str p.name)]) ζ1 (encSt s2) ζ1 from gf27 dr _)<|.effY (show Does cfg (.call (.c (.func (77:FuncId) [])) (List.map .c [.func (78:FuncId) [.ptr 0 0,.ptr 2 0,.ptr 1 0]])) {boxes:=[(encSt s2).cells,(encPd p).cells,[.str nm]],toks:=[],loops:=[]:Heap} (shutA (.int .i64 e)) H2 from hd)<|.fin ((.ret (.int .i64 e),H2)) rfl) (by kernel_rfl)
end Go.Aa.T
set_option linter.unusedVariables false
set_option linter.unusedSimpArgs false
set_option maxRecDepth 100000
namespace Go.Aa.T
open Go.Aa Go.Proofs
structure POk(v:List Amount):Prop where
 name:∀x∈v,isName x.name=true
 pos:∀x∈v,0<x.n
 rise:Rise (nms v)
theorem VOk.p{v:List Amount}(h:VOk v):POk v:=⟨h.name,h.pos,h.rise⟩
theorem POk.v{v:List Amount}(h:POk v)(hl:v.length≤8):VOk v:=⟨hl,h.name,h.pos,h.rise⟩
theorem vok_nil:VOk []:=⟨by simp,by simp,by simp,by simp[Rise]⟩
theorem rise_len{l m:List (List UInt8)}(hl:Rise l)(hm:Rise m)(h:∀x∈l,x∈m):l.length≤m.length:=by
 have e:l=m.filter fun x=>decide (x∈l):=rise_ext hl (hm.filter _) fun x=>by
  simp only[List.mem_filter,decide_eq_true_eq]
  exact⟨fun hx=>⟨h x hx,hx⟩,fun hx=>hx.2⟩
 rw[e];exact List.length_filter_le _ _
theorem names_congr{l m:List (List UInt8)}(h:∀x,x∈l↔x∈m):namesOf l=namesOf m:=
 namesOf_eq (namesOf_rise m) fun x=>(h x).trans namesOf_mem.symm
theorem names_sub{l m:List (List UInt8)}(h:∀x∈l,x∈m):(namesOf l).length≤(namesOf m).length:=
 rise_len (namesOf_rise l) (namesOf_rise m) fun x hx=>namesOf_mem.2 (h x (namesOf_mem.1 hx))
theorem pok_pos{v:List Amount}(h:POk v){s:List UInt8}:s∈nms v↔0<getQ v s:=by
 constructor
 ·intro hs
  obtain⟨x,hx,-,e⟩:=getQ_some hs
  rw[e];exact h.pos x hx
 ·intro hs
  by_cases hm:s∈nms v
  ·exact hm
  ·rw[getQ_none hm]at hs;omega
theorem pok_nn{v:List Amount}(h:POk v)(s:List UInt8):0≤getQ v s:=by
 by_cases hm:s∈nms v
 ·have:=(pok_pos h).1 hm;omega
 ·rw[getQ_none hm];omega
theorem getQ_mem:∀{v:List Amount},Rise (nms v)→∀x∈v,getQ v x.name=x.n
 |[],_,x,hx=>by cases hx
 |y::v,h,x,hx=>by
  rw[getQ_cons]
  rcases List.mem_cons.1 hx with rfl|hx
  ·rw[if_pos rfl]
  ·rw[if_neg,getQ_mem (List.Pairwise.of_cons h) x hx]
   intro e
   have:=List.rel_of_pairwise_cons h (List.mem_map.2 ⟨x,hx,rfl⟩)
   rw[e,bl_irrefl]at this
   cases this
def mk1(g:OfQ)(l:List (List UInt8)):List Amount:=(l.filter fun s=>decide (0<(g s).1)).map fun s=>⟨s,(g s).1⟩
theorem madeF_ok{g:OfQ}:∀{l:List (List UInt8)}(acc:List Amount),(∀s∈l,(g s).2=0)→madeF g l acc=(acc++mk1 g l,0)
 |[],acc,_=>by simp[madeF,mk1]
 |s::l,acc,h=>by
  unfold madeF
  rw[if_pos (h s (by simp)),madeF_ok _ fun t ht=>h t (by simp[ht])]
  by_cases hp:0<(g s).1<;>simp[mk1,hp]
theorem madeF_zero{g:OfQ}:∀{l:List (List UInt8)}{acc:List Amount},(madeF g l acc).2=0→∀s∈l,(g s).2=0
 |[],acc,_,s,hs=>by cases hs
 |t::l,acc,h,s,hs=>by
  unfold madeF at h
  split at h
  ·rename_i h0
   rcases List.mem_cons.1 hs with rfl|hs
   ·exact h0
   ·exact madeF_zero h s hs
  ·rename_i h0;exact absurd h h0
theorem nms_mk1(g:OfQ)(l:List (List UInt8)):nms (mk1 g l)=l.filter fun s=>decide (0<(g s).1):=by
 simp only[nms,mk1,List.map_map]
 conv=>rhs;rw[←List.map_id (l.filter _)]
 rfl
theorem mk1_ok{g:OfQ}{l:List (List UInt8)}(hr:Rise l)(hn:∀s∈l,isName s=true):POk (mk1 g l):=by
 refine⟨fun x hx=> ?_,fun x hx=> ?_,?_⟩
 ·obtain⟨s,hs,rfl⟩:=List.mem_map.1 hx
  exact hn s (List.mem_filter.1 hs).1
 ·obtain⟨s,hs,rfl⟩:=List.mem_map.1 hx
  simpa using(List.mem_filter.1 hs).2
 ·rw[nms_mk1];exact hr.filter _
theorem mk1_get{g:OfQ}{l:List (List UInt8)}(hr:Rise l)(hn:∀s∈l,isName s=true)(s:List UInt8)(h0:0≤(g s).1)(hx:s∉l→(g s).1=0):getQ (mk1 g l) s=(g s).1:=by
 by_cases hs:s∈nms (mk1 g l)
 ·obtain⟨x,hx,e1,e2⟩:=getQ_some hs
  obtain⟨t,ht,rfl⟩:=List.mem_map.1 hx
  rw[e2];simp only at e1⊢;rw[e1]
 ·rw[getQ_none hs]
  rw[nms_mk1]at hs
  by_cases hl:s∈l
  ·have:¬0<(g s).1:=fun h=>hs (List.mem_filter.2 ⟨hl,by simpa using h⟩)
   omega
  ·exact(hx hl).symm
theorem fin_ok{l:List Amount}(h:l.length≤8):finV (l,0)=(l,0):=by
 unfold finV;rw[if_pos rfl,if_neg (by simp only;omega)]
theorem made_two{g:OfQ}{a b:List Amount}(oa:VOk a)(ob:VOk b):madeV g [a,b]=finV (madeF g (namesOf (nms a++nms b)) []):=by
 have e:allNames [a,b]=nms a++nms b:=by simp[allNames]
 unfold madeV
 rw[if_pos (by simp[firstE,ckV_of oa,ckV_of ob]),e]
theorem two_name{a b:List Amount}(oa:VOk a)(ob:VOk b):∀s∈namesOf (nms a++nms b),isName s=true:=fun s hs=>by
 rcases List.mem_append.1 (namesOf_mem.1 hs)with h|h
 ·obtain⟨x,hx,rfl⟩:=List.mem_map.1 h;exact oa.name x hx
 ·obtain⟨x,hx,rfl⟩:=List.mem_map.1 h;exact ob.name x hx
theorem addQ_nn{a b:Int}(ha:0≤a)(hb:0≤b):addQ a b=toldQ (a+b):=by
 unfold addQ bothE;rw[if_neg (show¬a<0 by omega),if_neg (show¬b<0 by omega),if_neg (by simp)]
theorem told_ok{n:Int}(h:n≤9223372036854775807):toldQ n=(n,0):=by unfold toldQ;rw[if_neg (by omega)]
theorem told_zero{n:Int}(h:(toldQ n).2=0):n≤9223372036854775807:=by
 unfold toldQ at h;split at h
 ·cases h
 ·omega
theorem add_nms{a b:List Amount}(oa:VOk a)(ob:VOk b)(hs:∀s,getQ a s+getQ b s≤9223372036854775807):
 (namesOf (nms a++nms b)).filter (fun s=>decide (0<(addQ (getQ a s) (getQ b s)).1))=namesOf (nms a++nms b):=by
 refine List.filter_eq_self.2 fun s hx=> ?_
 have pa:=pok_nn oa.p s
 have pb:=pok_nn ob.p s
 rw[addQ_nn pa pb,told_ok (hs s)]
 have:0<getQ a s+getQ b s:=by
  rcases List.mem_append.1 (namesOf_mem.1 hx)with h|h
  ·have:=(pok_pos oa.p).1 h;omega
  ·have:=(pok_pos ob.p).1 h;omega
 simpa using this
theorem add_ok{a b:List Amount}(oa:VOk a)(ob:VOk b)(hs:∀s,getQ a s+getQ b s≤9223372036854775807)(hl:(namesOf (nms a++nms b)).length≤8):
 ∃r,addV a b=(r,0)∧VOk r∧(∀s,getQ r s=getQ a s+getQ b s)∧nms r=namesOf (nms a++nms b):=by
 have pa:=pok_nn oa.p
 have pb:=pok_nn ob.p
 have hr:=namesOf_rise (nms a++nms b)
 have hn:=two_name oa ob
 have hg:∀s,addQ (getQ a s) (getQ b s)=(getQ a s+getQ b s,0):=fun s=>by rw[addQ_nn (pa s) (pb s),told_ok (hs s)]
 have e2:=nms_mk1 (fun s=>addQ (getQ a s) (getQ b s)) (namesOf (nms a++nms b))
 rw[add_nms oa ob hs]at e2
 have e3:(mk1 (fun s=>addQ (getQ a s) (getQ b s)) (namesOf (nms a++nms b))).length≤8:=by rw[←e2]at hl;simpa using hl
 refine⟨mk1 (fun s=>addQ (getQ a s) (getQ b s)) (namesOf (nms a++nms b)),?_,(mk1_ok hr hn).v e3,fun s=> ?_,e2⟩
 ·unfold addV
  rw[made_two oa ob,madeF_ok _ fun s _=>by simp only[hg],List.nil_append,fin_ok e3]
 ·rw[mk1_get hr hn s (by simp only[hg];have:=pa s;have:=pb s;omega),hg]
  intro hx
  simp only[hg]
  rw[getQ_none fun h=>hx (namesOf_mem.2 (List.mem_append.2 (.inl h))),getQ_none fun h=>hx (namesOf_mem.2 (List.mem_append.2 (.inr h)))]
  rfl
theorem add_zero{a b:List Amount}(oa:VOk a)(ob:VOk b)(h:(addV a b).2=0):(∀s,getQ a s+getQ b s≤9223372036854775807)∧(namesOf (nms a++nms b)).length≤8:=by
 have pa:=pok_nn oa.p
 have pb:=pok_nn ob.p
 unfold addV at h
 rw[made_two oa ob]at h
 have h0:(madeF (fun s=>addQ (getQ a s) (getQ b s)) (namesOf (nms a++nms b)) []).2=0:=by
  unfold finV at h;split at h
  ·rename_i h0;exact h0
  ·exact h
 have h1:=madeF_zero h0
 have hs:∀s,getQ a s+getQ b s≤9223372036854775807:=fun s=>by
  by_cases hm:s∈nms a++nms b
  ·have:=h1 s (namesOf_mem.2 hm)
   simp only[addQ_nn (pa s) (pb s)]at this
   exact told_zero this
  ·rw[getQ_none fun h=>hm (List.mem_append.2 (.inl h)),getQ_none fun h=>hm (List.mem_append.2 (.inr h))];omega
 refine⟨hs,?_⟩
 rw[madeF_ok _ h1,List.nil_append]at h
 have e2:=nms_mk1 (fun s=>addQ (getQ a s) (getQ b s)) (namesOf (nms a++nms b))
 rw[add_nms oa ob hs]at e2
 rw[←e2,List.length_map]
 unfold finV at h
 rw[if_pos rfl]at h
 split at h
 ·cases h
 ·rename_i h3;exact Nat.le_of_not_lt h3
def totQ:List (List Amount)→List UInt8→Int
 |[],_=>0
 |v::vs,s=>getQ v s+totQ vs s
theorem totQ_app(a b:List (List Amount))(s:List UInt8):totQ (a++b) s=totQ a s+totQ b s:=by
 induction a with
 |nil=>simp[totQ]
 |cons v a ih=>simp only[List.cons_append,totQ,ih];omega
theorem totQ_nn{vs:List (List Amount)}(h:∀v∈vs,VOk v)(s:List UInt8):0≤totQ vs s:=by
 induction vs with
 |nil=>simp[totQ]
 |cons v vs ih=>
  have:=pok_nn (h v (by simp)).p s
  have:=ih fun w hw=>h w (by simp[hw])
  simp only[totQ];omega
structure SumOk(acc:List Amount)(vs:List (List Amount)):Prop where
 le:∀s,getQ acc s+totQ vs s≤9223372036854775807
 few:(namesOf (nms acc++allNames vs)).length≤8
theorem SumOk.head{acc v:List Amount}{vs:List (List Amount)}(h:SumOk acc (v::vs))(hv:∀v∈vs,VOk v):(∀s,getQ acc s+getQ v s≤9223372036854775807)∧(namesOf (nms acc++nms v)).length≤8:=by
 refine⟨fun s=> ?_,?_⟩
 ·have:=h.le s
  have:=totQ_nn hv s
  simp only[totQ]at*;omega
 ·refine Nat.le_trans (names_sub fun x hx=> ?_) h.few
  rw[allNames_cons]
  simp only[List.mem_append]at hx⊢
  rcases hx with h|h
  ·exact .inl h
  ·exact .inr (.inl h)
theorem sum_mem{acc v r:List Amount}{vs:List (List Amount)}(e:nms r=namesOf (nms acc++nms v)):namesOf (nms r++allNames vs)=namesOf (nms acc++allNames (v::vs)):=
 names_congr fun x=>by rw[e,allNames_cons];simp only[List.mem_append,namesOf_mem,or_assoc]
theorem sum_ok:∀{vs:List (List Amount)}{acc:List Amount},VOk acc→(∀v∈vs,VOk v)→SumOk acc vs→∃r,sumG acc vs=(r,0)∧VOk r∧(∀s,getQ r s=getQ acc s+totQ vs s)∧nms r=namesOf (nms acc++allNames vs)
 |[],acc,oa,_,h=>⟨acc,rfl,oa,fun s=>by simp[totQ],by
    have:allNames []=[]:=rfl
    rw[this,List.append_nil]
    exact(namesOf_eq oa.rise fun x=>Iff.rfl).symm⟩
 |v::vs,acc,oa,ov,h=>by
  have ov':∀w∈vs,VOk w:=fun w hw=>ov w (by simp[hw])
  obtain⟨h1,h2⟩:=h.head ov'
  obtain⟨r,e,or,hr,hm⟩:=add_ok oa (ov v (by simp)) h1 h2
  obtain⟨r',e',or',hr',hm'⟩:=sum_ok or ov' ⟨fun s=>by have:=h.le s;simp only[totQ]at this;rw[hr];omega,by rw[sum_mem hm];exact h.few⟩
  refine⟨r',?_,or',fun s=> ?_,by rw[hm',sum_mem hm]⟩
  ·unfold sumG;rw[e,if_pos rfl];exact e'
  ·rw[hr',hr];simp only[totQ];omega
theorem names_self{v:List Amount}(h:VOk v):namesOf (nms v)=nms v:=namesOf_eq h.rise fun x=>Iff.rfl
theorem sum_zero:∀{vs:List (List Amount)}{acc:List Amount},VOk acc→(∀s,getQ acc s≤9223372036854775807)→(∀v∈vs,VOk v)→(sumG acc vs).2=0→SumOk acc vs
 |[],acc,oa,hb,_,h=>⟨fun s=>by have:=hb s;simp only[totQ];omega,by
    have:allNames []=[]:=rfl
    rw[this,List.append_nil,names_self oa,List.length_map];exact oa.len⟩
 |v::vs,acc,oa,hb,ov,h=>by
  have ov':∀w∈vs,VOk w:=fun w hw=>ov w (by simp[hw])
  unfold sumG at h
  split at h
  ·rename_i h0
   obtain⟨h1,h2⟩:=add_zero oa (ov v (by simp)) h0
   obtain⟨r,e,or,hr,hm⟩:=add_ok oa (ov v (by simp)) h1 h2
   rw[e]at h
   have ih:=sum_zero or (fun s=>by rw[hr];exact h1 s) ov' h
   exact⟨fun s=>by have:=ih.le s;rw[hr]at this;simp only[totQ];omega,by rw[←sum_mem hm];exact ih.few⟩
  ·rename_i h0;exact absurd h h0
theorem sum0{vs:List (List Amount)}(ov:∀v∈vs,VOk v):(sumG [] vs).2=0↔SumOk [] vs:=
 ⟨sum_zero vok_nil (fun s=>by show(0:Int)≤_;omega) ov,fun h=>by obtain⟨r,e,-⟩:=sum_ok vok_nil ov h;rw[e]⟩
theorem fits_get{a b:List Amount}(oa:POk a)(ob:POk b):fitsV a b=true↔∀s,getQ a s≤getQ b s:=by
 unfold fitsV
 simp only[List.all_eq_true,decide_eq_true_eq]
 constructor
 ·intro h s
  by_cases hm:s∈nms a
  ·obtain⟨x,hx,rfl,e⟩:=getQ_some hm
   rw[e];exact h x hx
  ·rw[getQ_none hm];exact pok_nn ob s
 ·intro h x hx
  rw[←getQ_mem oa.rise x hx];exact h _
theorem sub_ok{a b:List Amount}(oa:VOk a)(ob:VOk b)(h:∀s,getQ b s≤getQ a s):
 ∃r,subV a b=(r,0)∧VOk r∧(∀s,getQ r s=getQ a s-getQ b s):=by
 have pa:=pok_nn oa.p
 have pb:=pok_nn ob.p
 have hr:=namesOf_rise (nms a++nms b)
 have hn:=two_name oa ob
 have hg:∀s,subQ (getQ a s) (getQ b s)=(getQ a s-getQ b s,0):=fun s=>by
  have:=pa s;have:=pb s;have:=h s
  unfold subQ bothE;rw[if_neg (show¬getQ a s<0 by omega),if_neg (show¬getQ b s<0 by omega),if_neg (by simp),if_neg (by omega)]
 have hp:=mk1_ok (g:=fun s=>subQ (getQ a s) (getQ b s)) hr hn
 have e2:=nms_mk1 (fun s=>subQ (getQ a s) (getQ b s)) (namesOf (nms a++nms b))
 have e3:(mk1 (fun s=>subQ (getQ a s) (getQ b s)) (namesOf (nms a++nms b))).length≤8:=by
  have hl:(nms (mk1 (fun s=>subQ (getQ a s) (getQ b s)) (namesOf (nms a++nms b)))).length≤(nms a).length:=rise_len hp.rise oa.rise fun x hx=>by
   rw[e2]at hx
   have:=(List.mem_filter.1 hx).2
   simp only[hg,decide_eq_true_eq]at this
   have:=pb x
   exact(pok_pos oa.p).2 (by omega)
  have:=oa.len
  simp only[List.length_map]at hl;omega
 refine⟨_,?_,hp.v e3,fun s=> ?_⟩
 ·unfold subV
  rw[made_two oa ob,madeF_ok _ fun s _=>by simp only[hg],List.nil_append,fin_ok e3]
 ·rw[mk1_get hr hn s (by simp only[hg];have:=h s;omega),hg]
  intro hx
  simp only[hg]
  rw[getQ_none fun h=>hx (namesOf_mem.2 (List.mem_append.2 (.inl h))),getQ_none fun h=>hx (namesOf_mem.2 (List.mem_append.2 (.inr h)))]
  rfl
end Go.Aa.T
set_option linter.unusedVariables false
set_option linter.unusedSimpArgs false
set_option maxRecDepth 100000
namespace Go.Aa.T
open Go.Aa Go.Proofs
end Go.Aa.T
set_option linter.unusedVariables false
set_option linter.unusedSimpArgs false
set_option maxRecDepth 100000
namespace Go.Aa.T
open Go.Aa Go.Proofs
end Go.Aa.T
set_option linter.unusedVariables false
set_option linter.unusedSimpArgs false
set_option maxRecDepth 100000
namespace Go.Aa.T
open Go.Aa Go.Proofs
end Go.Aa.T
set_option linter.unusedVariables false
set_option linter.unusedSimpArgs false
set_option maxRecDepth 100000
namespace Go.Aa.T
open Go.Aa Go.Proofs
theorem find_uniq{X:Type}{most:Nat}{ck:X→Int}{nm:X→List UInt8}{s:List X}(h:ckAll most ck nm s=0){x:X}(hx:x∈s):findG nm s (nm x)=some x:=by
 obtain⟨y,hy⟩:∃y,findG nm s (nm x)=some y:=by
  cases e:findG nm s (nm x)with
  |some y=>exact⟨y,rfl⟩
  |none=>exact absurd (List.find?_eq_none.1 e x hx) (by simp)
 rw[hy]
 have hn:nm y=nm x:=by simpa using List.find?_some hy
 obtain⟨i,hi,ei⟩:=List.getElem_of_mem hx
 obtain⟨j,hj,ej⟩:=List.getElem_of_mem (List.mem_of_find?_eq_some hy)
 have ei':s[i]?=some x:=by rw[List.getElem?_eq_getElem hi,ei]
 have ej':s[j]?=some y:=by rw[List.getElem?_eq_getElem hj,ej]
 rcases Nat.lt_trichotomy i j with h1|h1|h1
 ·have:=names_ltX h (j-i-1) i x y ei' (by rw[show i+(j-i-1)+1=j by omega];exact ej')
  rw[hn,bl_irrefl]at this;cases this
 ·subst h1;rw[ei']at ej';exact ej'.symm
 ·have:=names_ltX h (i-j-1) j y x ej' (by rw[show j+(i-j-1)+1=i by omega];exact ei')
  rw[hn,bl_irrefl]at this;cases this
structure GdS(s:St):Prop where
 cap:∀n∈s.nodes,VOk n.cap
 need:∀p∈s.pods,VOk p.need
 name:∀n∈s.nodes,n.name≠[]
 find:∀n∈s.nodes,findG Node.name s.nodes n.name=some n
 pods:srtP s.pods
 room:∀n∈s.nodes,(usedS s n.name).2=0∧fitsV (usedS s n.name).1 n.cap=true
 total:(totalS s).2=0
theorem roomE_zero{s:St}:∀{l:List Node},roomE s l=0→∀n∈l,(usedS s n.name).2=0∧fitsV (usedS s n.name).1 n.cap=true
 |[],_,n,hn=>by cases hn
 |m::l,h,n,hn=>by
  unfold roomE at h
  split at h
  ·rename_i h0
   split at h
   ·rename_i h1
    rcases List.mem_cons.1 hn with rfl|hn
    ·exact⟨h0,h1⟩
    ·exact roomE_zero h n hn
   ·cases h
  ·rename_i h0;exact absurd h h0
theorem gdS{s:St}(h:ckSt s=0):GdS s:=by
 have h1:ckAll 32 ckN Node.name s.nodes=0:=firstE_zero h _ (by simp)
 have h2:ckAll 128 ckPd Pod.name s.pods=0:=firstE_zero h _ (by simp)
 exact⟨fun n hn=>vOk (firstE_zero ((ckAll_mem h1).2 n hn) _ (by simp)),fun p hp=>vOk (firstE_zero ((ckAll_mem h2).2 p hp) _ (by simp)),fun n hn=>ckN_name ((ckAll_mem h1).2 n hn),
  fun n hn=>find_uniq h1 hn,ck_srt h,roomE_zero (firstE_zero h _ (by simp)),firstE_zero h _ (by simp)⟩
def ndS(s:St)(nd:List UInt8):List (List Amount):=(onS s nd).map (·.need)
theorem GdS.nd{s:St}(g:GdS s)(nd:List UInt8):∀v∈ndS s nd,VOk v:=fun v hv=>by
 obtain⟨p,hp,rfl⟩:=List.mem_map.1 hv
 exact g.need p (List.mem_filter.1 hp).1
theorem used_at{s:St}{nd:List UInt8}{n:Node}(h:findG Node.name s.nodes nd=some n):usedS s nd=sumG [] (ndS s nd):=by unfold usedS;rw[h];rfl
theorem free_at{s:St}{nd:List UInt8}{n:Node}(h:findG Node.name s.nodes nd=some n)(h0:(usedS s nd).2=0):freeS s nd=subV n.cap (usedS s nd).1:=by
 unfold freeS freeG capOf;rw[if_pos h0,h]
theorem GdS.at_{s:St}(g:GdS s){n:Node}(hn:n∈s.nodes):∃u,usedS s n.name=(u,0)∧VOk u∧(∀z,getQ u z=totQ (ndS s n.name) z)∧nms u=namesOf (allNames (ndS s n.name))∧fitsV u n.cap=true:=by
 have hf:=g.find n hn
 obtain⟨h0,h1⟩:=g.room n hn
 rw[used_at hf]at h0 h1⊢
 obtain⟨u,e,ou,hu,hm⟩:=sum_ok vok_nil (g.nd _) ((sum0 (g.nd _)).1 h0)
 refine⟨u,e,ou,fun z=> ?_,hm,?_⟩
 ·rw[hu];show 0+_=_;omega
 ·rw[e]at h1;exact h1
theorem srt_ne{l r:List Pod}{p:Pod}(h:srtP (l++p::r)):(∀x∈l,x.name≠p.name)∧∀x∈r,x.name≠p.name:=by
 obtain⟨-,h2,h3⟩:=List.pairwise_append.1 h
 refine⟨fun x hx e=> ?_,fun x hx e=> ?_⟩
 ·have:=h3 x hx p (by simp);rw[e,bl_irrefl]at this;cases this
 ·have:=List.rel_of_pairwise_cons h2 hx;rw[e,bl_irrefl]at this;cases this
theorem tot_mid(A B:List (List Amount))(v:List Amount)(z:List UInt8):totQ (A++v::B) z=totQ (A++B) z+getQ v z:=by
 simp only[totQ_app,totQ];omega
theorem tot_sub{A B:List (List Amount)}(h:A.Sublist B)(hv:∀v∈B,VOk v)(z:List UInt8):totQ A z≤totQ B z:=by
 induction h with
 |slnil=>exact Int.le_refl _
 |cons v h ih=>
  have:=ih fun w hw=>hv w (by simp[hw])
  have:=pok_nn (hv v (by simp)).p z
  simp only[totQ];omega
 |cons_cons v h ih=>
  have:=ih fun w hw=>hv w (by simp[hw])
  simp only[totQ];omega
theorem drop_nd(s:St)(nm nd:List UInt8):(ndS (dropS s nm) nd).Sublist (ndS s nd):=
 (((List.filter_sublist (l:=s.pods)).filter _).map _)
theorem less_used{s:St}(g:GdS s)(nm:List UInt8){n:Node}(hn:n∈s.nodes):∃u,usedS (dropS s nm) n.name=(u,0)∧VOk u∧(∀z,getQ u z=totQ (ndS (dropS s nm) n.name) z)∧fitsV u n.cap=true:=by
 obtain⟨u,e,ou,hu,hm,hf⟩:=g.at_ hn
 have oc:=g.cap n hn
 have hle:=(fits_get ou.p oc.p).1 hf
 have hsub:=drop_nd s nm n.name
 have ov:∀v∈ndS (dropS s nm) n.name,VOk v:=fun v hv=>g.nd n.name v (hsub.subset hv)
 have hk:=(sum0 (g.nd n.name)).1 (by rw[←used_at (g.find n hn),e])
 have hk2:SumOk [] (ndS (dropS s nm) n.name):=⟨fun z=>by have:=hk.le z;have:=tot_sub hsub (g.nd n.name) z;omega,
  Nat.le_trans (names_sub fun x hx=>by
   simp only[List.map_nil,List.nil_append,allNames,List.mem_flatMap]at hx⊢
   obtain⟨v,hv,hx⟩:=hx
   exact⟨v,hsub.subset hv,hx⟩) hk.few⟩
 obtain⟨u2,e2,ou2,hu2,-⟩:=sum_ok vok_nil ov hk2
 have e0:∀z,getQ [] z=0:=fun z=>rfl
 have hu3:∀z,getQ u2 z=totQ (ndS (dropS s nm) n.name) z:=fun z=>by rw[hu2,e0];omega
 have hfd:findG Node.name (dropS s nm).nodes n.name=some n:=g.find n hn
 refine⟨u2,by rw[used_at hfd];exact e2,ou2,hu3,(fits_get ou2.p oc.p).2 fun z=> ?_⟩
 have:=hle z;have:=tot_sub hsub (g.nd n.name) z
 rw[hu3];rw[hu]at*;omega
end Go.Aa.T
set_option linter.unusedVariables false
set_option linter.unusedSimpArgs false
set_option maxRecDepth 100000
namespace Go.Aa.T
open Go.Aa Go.Proofs
theorem drop_drop(s:St)(a b:List UInt8):dropS (dropS s a) b=dropS (dropS s b) a:=by
 unfold dropS offP
 simp only[List.filter_filter,Bool.and_comm]
end Go.Aa.T
set_option linter.unusedVariables false
set_option linter.unusedSimpArgs false
set_option maxRecDepth 100000
namespace Go.Aa.T
open Go.Aa Go.Proofs
end Go.Aa.T
set_option linter.unusedVariables false
set_option linter.unusedSimpArgs false
set_option maxRecDepth 100000
namespace Go.Aa.T
open Go.Aa Go.Proofs
end Go.Aa.T
set_option linter.unusedVariables false
set_option linter.unusedSimpArgs false
set_option maxRecDepth 100000
namespace Go.Aa.T
open Go.Aa Go.Proofs
theorem known15':Gives cfg 15 [] (.bool true):=by
 obtain⟨H,h⟩:=known_ret15
 exact Gives.of h
theorem few_nd{s:St}(fs:FewS s):∀n∈s.nodes,NdIn n:=fun n hn=>by
 have f:=fewNd (fs.node n hn)
 exact⟨by have:=f.labels;omega,by have:=f.taints;omega⟩
theorem few_pd{p:Pod}(h:fewPd p=true):PdIn p:=by
 have f:=fewPod h
 exact⟨by have:=f.need;omega,by have:=f.labels;omega,by have:=f.sel;omega,by have:=f.tols;omega⟩
end Go.Aa.T
set_option linter.unusedVariables false
set_option linter.unusedSimpArgs false
set_option maxRecDepth 100000
namespace Go.Aa.T
open Go.Aa Go.Proofs
def fitS(s:St)(p:Pod)(nm:List UInt8):Int:=fitG (dropS s p.name) p nm (skewS (dropS s p.name) p nm).1 (skewS (dropS s p.name) p nm).2
theorem fit_any(s:St)(hs:StIn s)(hn:∀n∈s.nodes,NdIn n)(hl:s.nodes.length≤1000)(p:Pod)(hp:PdIn p)(nm:List UInt8):Gives cfg 21 [encSt s,encPd p,.str nm] (.int .i64 (fitS s p nm)):=
 fit_gen s hs hn p hp nm _ _ (skew_any (dropS s p.name) p nm (by have:=(drop_inF hs p.name).pods;omega) hl fun n h=>(hn n h).labels)
theorem drop_twice(s:St)(nm:List UInt8):dropS (dropS s nm) nm=dropS s nm:=by
 unfold dropS
 rw[off_off]
theorem fitS_drop(s:St)(p:Pod)(nm:List UInt8):fitS (dropS s p.name) p nm=fitS s p nm:=by
 unfold fitS
 rw[drop_twice]
theorem pods_at{s:St}:∀{l:List Pod},podsE s l=0→∀p∈l,p.node≠[]→∃n,findG Node.name s.nodes p.node=some n
 |[],_,p,hp,_=>by cases hp
 |x::l,h,p,hp,hne=>by
  unfold podsE at h
  split at h
  ·cases h
  ·rename_i h1
   rcases List.mem_cons.1 hp with rfl|hp
   ·cases hf:findG Node.name s.nodes p.node with
    |some n=>exact⟨n,rfl⟩
    |none=>exact absurd ⟨hne,hf⟩ h1
   ·exact pods_at h p hp hne
theorem off_mid{l r:List Pod}{p:Pod}(h:srtP (l++p::r)):offP p.name (l++p::r)=l++r:=by
 obtain⟨h1,h2⟩:=srt_ne h
 rw[off_app]
 have e:offP p.name (p::r)=offP p.name r:=by simp[offP]
 rw[e,off_id h1,off_id h2]
theorem stays_room{s:St}(g:GdS s){p:Pod}(hp:p∈s.pods){n:Node}(hn:n∈s.nodes)(he:p.node=n.name):∃b,freeS (dropS s p.name) n.name=(b,0)∧fitsV p.need b=true:=by
 obtain⟨l,r,hl⟩:=List.append_of_mem hp
 obtain⟨u,e,ou,hu,-,hf⟩:=g.at_ hn
 obtain⟨u2,e2,ou2,hu2,hf2⟩:=less_used g p.name hn
 have oc:=g.cap n hn
 obtain⟨b,eb,ob,hb⟩:=sub_ok oc ou2 ((fits_get ou2.p oc.p).1 hf2)
 have hfd:findG Node.name (dropS s p.name).nodes n.name=some n:=g.find n hn
 refine⟨b,by rw[free_at hfd (by rw[e2]),e2];exact eb,(fits_get (g.need p hp).p ob.p).2 fun z=> ?_⟩
 have hz:=(fits_get ou.p oc.p).1 hf z
 have hon:onP n.name p=true:=by simp[onP,he,g.name n hn]
 have d1:ndS s n.name=(l.filter (onP n.name)).map (·.need)++p.need::(r.filter (onP n.name)).map (·.need):=by simp[ndS,onS,hl,hon]
 have d2:ndS (dropS s p.name) n.name=(l.filter (onP n.name)).map (·.need)++(r.filter (onP n.name)).map (·.need):=by
  have:(dropS s p.name).pods=l++r:=by
   show offP p.name s.pods=_
   have hs:=g.pods
   rw[hl]at hs⊢
   exact off_mid hs
  simp[ndS,onS,this]
 rw[hu,d1,tot_mid,←d2]at hz
 rw[hb,hu2];omega
theorem stays_fit{s:St}(g:GdS s)(hpo:podsE s s.pods=0){p:Pod}(hp:p∈s.pods)(hne:p.node≠[]):¬fitS s p p.node=7∧¬fitS s p p.node=3:=by
 obtain⟨n,hf⟩:=pods_at hpo p hp hne
 have hn:=findG_mem hf
 have en:n.name=p.node:=by simpa using List.find?_some hf
 obtain⟨b,eb,hb⟩:=stays_room g hp hn en.symm
 rw[en]at eb
 unfold fitS fitG
 rw[show(dropS s p.name).nodes=s.nodes from rfl,hf]
 simp only[eb,hb]
 constructor<;>(intro h;split at h<;>(try split at h)<;>(try split at h)<;>simp_all)
theorem stays_loop(s:St)(fs:FewS s)(hs:StIn s)(g:GdS s)(hpo:podsE s s.pods=0):∀(post:List Pod)(i:Nat)(hd:s.pods.drop i=post)(ex:List (List AV))(T:Env)(hT:Has T [(1,.ptr 0 0),(3,.int .i64 i)]),
 Goes cfg a6 k6_0 T ⟨(encSt s).cells::ex,[],[]⟩ (IsRet (.bool true)):=by
 intro post
 have fp:=fs.pods
 have fn:=fs.nodes
 have nd:=few_nd fs
 induction post with
 |nil=>
  intro i hd ex T hT
  have hge:=drop_ge hd
  exact let ζ1:List AV:=[.sl .sh (s.nodes.map encN),.sl .sh (s.pods.map encPd),.sl .sh (s.buds.map encB)];let ζ2:Heap:={boxes:=ζ1::ex,toks:=[],loops:=[]:Heap};goG 60 _ hT (.load (show loadA false 1 ζ2 (.ptr 0 1)=some (.sl .sh (s.pods.map encPd))from load_box (cs:=ζ1) (by simp+zetaDelta) rfl)<|.len (show lenA false (.sl .sh (s.pods.map encPd))=some (.int .i64 (↑s.pods.length))from len_map _)<|.no (decide_eq_false (p:=(↑i:Int)<(↑s.pods.length:Int)) (by omega))<|.fin ((.ret (.bool true),ζ2)) rfl) (by kernel_rfl)
 |cons x post ih=>
  intro i hd ex T hT
  have hlt:=drop_lt hd
  have hnx:=drop_next hd
  have hx:=drop_mem hd
  have hxi:idxA 11 (.sl .sh (s.pods.map encPd)) (.int .i64 (i:Nat))=some (.ref (encPd x).cells):=idx_row (f:=encPd) hd rfl
  have ih':=ih (i+1) hnx (ex++[(encPd x).cells])
  by_cases hne:x.node=[]
  ·exact let ζ1:List AV:=[.str x.name,.str x.owner,.int .i64 x.prio,.sl .sh (x.need.map encA),.sl .sh (x.labels.map encP),.sl .sh (x.sel.map encM),.sl .sh (x.tols.map encL),.str x.key,.int .i64 x.most,.str x.node,.bool x.hold];let ζ2:List AV:=[.sl .sh (s.nodes.map encN),.sl .sh (s.pods.map encPd),.sl .sh (s.buds.map encB)];let ζ3:List AV:=[.str [],.str [],.int .i64 0,.sl .full [],.sl .full [],.sl .full [],.sl .full [],.str [],.int .i64 0,.str [],.bool false];let ζ4:Heap:={boxes:=ζ2::(ex++[ζ1]),toks:=[],loops:=[]:Heap};let ζ5:Heap:={boxes:=ζ2::ex,toks:=[],loops:=[]:Heap};goG 120 _ hT (.load (show loadA false 1 ζ5 (.ptr 0 1)=some (.sl .sh (s.pods.map encPd))from load_box (cs:=ζ2) (by simp+zetaDelta) rfl)<|.len (show lenA false (.sl .sh (s.pods.map encPd))=some (.int .i64 (↑s.pods.length))from len_map _)<|.yes (decide_eq_true (p:=(↑i:Int)<(↑s.pods.length:Int)) (by omega))<|.load (show loadA false 1 ζ5 (.ptr 0 1)=some (.sl .sh (s.pods.map encPd))from load_box (cs:=ζ2) (by simp+zetaDelta) rfl)<|.idx (show idxA 11 (.sl .sh (s.pods.map encPd)) (.int .i64 ↑i)=some (.ref (encPd x).cells)from hxi)<|.load (rfl:loadA true 11 ζ5 (.ref ζ1)=some (.agg ζ1))<|.store (show storeA 11 {boxes:=ζ2::(ex++[ζ3]),toks:=[],loops:=[]:Heap} (.ptr (ζ2::ex).length (0:Nat)) (.agg ζ1)=some (ζ4)from store_box2 (cs:=ζ3) (cs':=ζ1) (by simp+zetaDelta) rfl (by simp+zetaDelta [List.set_append]))<|.load (show loadA false 1 ζ4 (.ptr (ζ2::ex).length (9:Nat))=some (.str x.node)from load_box (cs:=ζ1) (by simp+zetaDelta) rfl)<|.yes (show(x.node==[])=true from(by simp+zetaDelta [hne]))<|.bin (show binA .add (.int .i64 ↑i) (.int .i64 1)=some (.int .i64 (↑(i+1)))from inc_i (by omega))<|.cutQ k6_0 [(1,.ptr 0 0),(3,.int .i64 (↑(i+1)))] (ζ4) (fun T hT=>(ih' T hT))) (by kernel_rfl)
  ·obtain⟨h7,h3⟩:=stays_fit g hpo hx hne
   have pi:=few_pd (fs.pod x hx)
   have f1:=fit_any s hs nd (by omega) x pi x.node
   have f2:=fit_any (dropS s x.name) (drop_inF hs x.name) nd (by show s.nodes.length≤1000;omega) x pi x.node
   rw[fitS_drop]at f2
   have dr:=drop_gives s x.name (by omega)
   generalize fitS s x x.node=e at f1 f2 h7 h3
   generalize dropS s x.name=t at dr f2
   exact let ζ1:List AV:=[.str x.name,.str x.owner,.int .i64 x.prio,.sl .sh (x.need.map encA),.sl .sh (x.labels.map encP),.sl .sh (x.sel.map encM),.sl .sh (x.tols.map encL),.str x.key,.int .i64 x.most,.str x.node,.bool x.hold];let ζ2:List AV:=[.sl .sh (s.nodes.map encN),.sl .sh (s.pods.map encPd),.sl .sh (s.buds.map encB)];let ζ3:Heap:={boxes:=ζ2::(ex++[ζ1]),toks:=[],loops:=[]:Heap};let ζ4:List AV:=[.str [],.str [],.int .i64 0,.sl .full [],.sl .full [],.sl .full [],.sl .full [],.str [],.int .i64 0,.str [],.bool false];let ζ5:Heap:={boxes:=ζ2::ex,toks:=[],loops:=[]:Heap};goG 240 _ hT (.load (show loadA false 1 ζ5 (.ptr 0 1)=some (.sl .sh (s.pods.map encPd))from load_box (cs:=ζ2) (by simp+zetaDelta) rfl)<|.len (show lenA false (.sl .sh (s.pods.map encPd))=some (.int .i64 (↑s.pods.length))from len_map _)<|.yes (decide_eq_true (p:=(↑i:Int)<(↑s.pods.length:Int)) (by omega))<|.load (show loadA false 1 ζ5 (.ptr 0 1)=some (.sl .sh (s.pods.map encPd))from load_box (cs:=ζ2) (by simp+zetaDelta) rfl)<|.idx (show idxA 11 (.sl .sh (s.pods.map encPd)) (.int .i64 ↑i)=some (.ref (encPd x).cells)from hxi)<|.load (rfl:loadA true 11 ζ5 (.ref ζ1)=some (.agg ζ1))<|.store (show storeA 11 {boxes:=ζ2::(ex++[ζ4]),toks:=[],loops:=[]:Heap} (.ptr (ζ2::ex).length (0:Nat)) (.agg ζ1)=some (ζ3)from store_box2 (cs:=ζ4) (cs':=ζ1) (by simp+zetaDelta) rfl (by simp+zetaDelta [List.set_append]))<|.load (show loadA false 1 ζ3 (.ptr (ζ2::ex).length (9:Nat))=some (.str x.node)from load_box (cs:=ζ1) (by simp+zetaDelta) rfl)<|.no (show(x.node==[])=false from Bool.eq_false_iff.2 (by simp+zetaDelta [hne]))<|.load (show loadA true 3 ζ3 (.ptr 0 0)=some (.agg ζ2)from load_box (cs:=ζ2) (by simp+zetaDelta) rfl)<|.load (show loadA true 11 ζ3 (.ptr (ζ2::ex).length (0:Nat))=some (.agg ζ1)from load_box (cs:=ζ1) (by simp+zetaDelta) rfl)<|.load (show loadA false 1 ζ3 (.ptr (ζ2::ex).length (9:Nat))=some (.str x.node)from load_box (cs:=ζ1) (by simp+zetaDelta) rfl)<|.callI f1<|.no (show(e==(7:Int))=false from Bool.eq_false_iff.2 (by simpa using h7))<|.no (show(e==(3:Int))=false from Bool.eq_false_iff.2 (by simpa using h3))<|.load (show loadA true 3 ζ3 (.ptr 0 0)=some (.agg ζ2)from load_box (cs:=ζ2) (by simp+zetaDelta) rfl)<|.load (show loadA false 1 ζ3 (.ptr (ζ2::ex).length (0:Nat))=some (.str x.name)from load_box (cs:=ζ1) (by simp+zetaDelta) rfl)<|.callGF [(encSt s),(.str x.name)] (dr) rfl rfl (ζ3)<|.load (show loadA true 11 ζ3 (.ptr (ζ2::ex).length (0:Nat))=some (.agg ζ1)from load_box (cs:=ζ1) (by simp+zetaDelta) rfl)<|.load (show loadA false 1 ζ3 (.ptr (ζ2::ex).length (9:Nat))=some (.str x.node)from load_box (cs:=ζ1) (by simp+zetaDelta) rfl)<|.callI f2<|.no (show(e !=e)=false from Bool.eq_false_iff.2 (by simp+zetaDelta [hne]))<|.bin (show binA .add (.int .i64 ↑i) (.int .i64 1)=some (.int .i64 (↑(i+1)))from inc_i (by omega))<|.cutQ k6_0 [(1,.ptr 0 0),(3,.int .i64 (↑(i+1)))] (ζ3) (fun T hT=>(ih' T hT))) (by kernel_rfl)
theorem fitStays(s:St)(r:RgS s):Gives cfg 6 [encSt s] (.bool true):=by
 refine Gives.run (l6 _ _) ?_
 have g:=good_any s r
 cases hg:(fewSt s&&ckSt s==0)with
 |false=>
  rw[hg]at g
  exact let ζ1:List AV:=[.sl .sh (s.nodes.map encN),.sl .sh (s.pods.map encPd),.sl .sh (s.buds.map encB)];goG 90 [] trivial (.callI known15'<|.ff<|.callI g<|.tt<|.fin ((.ret (.bool true),{boxes:=[ζ1],toks:=[],loops:=[]:Heap})) rfl) (by kernel_rfl)
 |true=>
  rw[hg]at g
  simp only[Bool.and_eq_true,beq_iff_eq]at hg
  obtain⟨hg1,hg2⟩:=hg
  have fs:=fewS hg1
  have lo:=stays_loop s fs (stIn fs r) (gdS hg2) (firstE_zero hg2 _ (by simp)) s.pods 0 rfl []
  exact let ζ1:List AV:=[.sl .sh (s.nodes.map encN),.sl .sh (s.pods.map encPd),.sl .sh (s.buds.map encB)];goG 90 [] trivial (.callI known15'<|.ff<|.callI g<|.ff<|.cutQ k6_0 [(1,.ptr 0 0),(3,.int .i64 0)] ({boxes:=[ζ1],toks:=[],loops:=[]:Heap}) (fun T hT=>(lo T hT))) (by kernel_rfl)
end Go.Aa.T
set_option linter.unusedVariables false
set_option linter.unusedSimpArgs false
set_option maxRecDepth 100000
namespace Go.Aa.T
open Go.Aa Go.Proofs
theorem law6(xs:List AV)(h:TyAll Tryz.prog 6 [26] xs)(hz:SzAll Tryz.prog [26] xs):∃H',lim cfg (.fn 6) xs Heap.nil=some (.ret (.bool true),H'):=by
 obtain⟨x1,rfl,h1⟩:=tyall_1 h
 obtain⟨a,rfl,r,-⟩:=ty26 (k:=0) h1
 exact(fitStays a r).ret
end Go.Aa.T
namespace Go.Proofs
open Go.Shelf
def Tryz.lays160_ren:Go.Shelf.Ren:=⟨fun|160=>215|232=>223|231=>222|227=>224|234=>226|233=>225|236=>228|235=>227|228=>241|271=>244|151=>243|197=>242|120=>253|152=>252|260=>251|137=>255|119=>256|224=>257|225=>258|217=>259|266=>260|n=>n,fun|9=>9|4=>4|3=>3|5=>5|117=>280|116=>279|0=>0|124=>283|21=>21|105=>297|46=>244|119=>310|139=>313|138=>312|n=>n,fun|3=>1|4=>2|n=>n⟩
theorem Tryz.lays160:Go.Proofs.Lays.n160 Tryz.prog Tryz.lays160_ren:={
 mixed:=by kernel_rfl
 f119:=Tryz.func256.trans (congrArg some (by kernel_rfl))
 f120:=Tryz.func253.trans (congrArg some (by kernel_rfl))
 f137:=Tryz.func255.trans (congrArg some (by kernel_rfl))
 f151:=Tryz.func243.trans (congrArg some (by kernel_rfl))
 f152:=Tryz.func252.trans (congrArg some (by kernel_rfl))
 f160:=Tryz.func215.trans (congrArg some (by kernel_rfl))
 f197:=Tryz.func242.trans (congrArg some (by kernel_rfl))
 f217:=Tryz.func259.trans (congrArg some (by kernel_rfl))
 f224:=Tryz.func257.trans (congrArg some (by kernel_rfl))
 f225:=Tryz.func258.trans (congrArg some (by kernel_rfl))
 f227:=Tryz.func224.trans (congrArg some (by kernel_rfl))
 f228:=Tryz.func241.trans (congrArg some (by kernel_rfl))
 f231:=Tryz.func222.trans (congrArg some (by kernel_rfl))
 f232:=Tryz.func223.trans (congrArg some (by kernel_rfl))
 f233:=Tryz.func225.trans (congrArg some (by kernel_rfl))
 f234:=Tryz.func226.trans (congrArg some (by kernel_rfl))
 f235:=Tryz.func227.trans (congrArg some (by kernel_rfl))
 f236:=Tryz.func228.trans (congrArg some (by kernel_rfl))
 f260:=Tryz.func251.trans (congrArg some (by kernel_rfl))
 f266:=Tryz.func260.trans (congrArg some (by kernel_rfl))
 f271:=Tryz.func244.trans (congrArg some (by kernel_rfl))
 t0:=Tryz.underlying0
 a0:=Tryz.isAgg0
 z0:=Tryz.sizeOf0
 v0:=Tryz.zeroValue0
 t3:=Tryz.underlying3
 a3:=Tryz.isAgg3
 z3:=Tryz.sizeOf3
 v3:=Tryz.zeroValue3
 t4:=Tryz.underlying4
 a4:=Tryz.isAgg4
 z4:=Tryz.sizeOf4
 v4:=Tryz.zeroValue4
 t5:=Tryz.underlying5
 a5:=Tryz.isAgg5
 z5:=Tryz.sizeOf5
 v5:=Tryz.zeroValue5
 t9:=Tryz.underlying9
 a9:=Tryz.isAgg9
 z9:=Tryz.sizeOf9
 v9:=Tryz.zeroValue9
 t21:=Tryz.underlying21
 a21:=Tryz.isAgg21
 z21:=Tryz.sizeOf21
 v21:=Tryz.zeroValue21
 t46:=Tryz.underlying244
 a46:=Tryz.isAgg244
 z46:=Tryz.sizeOf244
 v46:=Tryz.zeroValue244
 t105:=Tryz.underlying297
 a105:=Tryz.isAgg297
 z105:=Tryz.sizeOf297
 v105:=Tryz.zeroValue297
 t116:=Tryz.underlying279
 a116:=Tryz.isAgg279
 z116:=Tryz.sizeOf279
 t117:=Tryz.underlying280
 a117:=Tryz.isAgg280
 z117:=Tryz.sizeOf280
 v117:=Tryz.zeroValue280
 t119:=Tryz.underlying310
 a119:=Tryz.isAgg310
 z119:=Tryz.sizeOf310
 t124:=Tryz.underlying283
 a124:=Tryz.isAgg283
 z124:=Tryz.sizeOf283
 v124:=Tryz.zeroValue283
 t138:=Tryz.underlying312
 a138:=Tryz.isAgg312
 z138:=Tryz.sizeOf312
 v138:=Tryz.zeroValue312
 t139:=Tryz.underlying313
 a139:=Tryz.isAgg313
 z139:=Tryz.sizeOf313
 v139:=Tryz.zeroValue313
 g3:=by kernel_rfl
 g4:=by kernel_rfl}
def Tryz.lays106_ren:Go.Shelf.Ren:=⟨fun|106=>118|213=>186|265=>213|n=>n,fun|9=>9|3=>3|n=>n,fun|n=>n⟩
theorem Tryz.lays106:Go.Proofs.Lays.n106 Tryz.prog Tryz.lays106_ren:={
 mixed:=by kernel_rfl
 f106:=Tryz.func118.trans (congrArg some (by kernel_rfl))
 f213:=Tryz.func186.trans (congrArg some (by kernel_rfl))
 f265:=Tryz.func213.trans (congrArg some (by kernel_rfl))
 t3:=Tryz.underlying3
 a3:=Tryz.isAgg3
 z3:=Tryz.sizeOf3
 v3:=Tryz.zeroValue3
 t9:=Tryz.underlying9
 a9:=Tryz.isAgg9
 z9:=Tryz.sizeOf9
 v9:=Tryz.zeroValue9}
def Tryz.lays190_ren:Go.Shelf.Ren:=⟨fun|190=>204|125=>218|258=>217|128=>238|129=>239|302=>229|303=>230|304=>231|305=>232|306=>233|307=>234|308=>235|309=>236|310=>237|333=>245|329=>246|330=>247|334=>248|335=>249|336=>250|344=>254|n=>n,fun|31=>57|9=>9|3=>3|46=>244|0=>0|51=>293|53=>254|4=>4|183=>286|182=>285|131=>135|5=>5|218=>300|222=>304|228=>307|229=>308|n=>n,fun|n=>n⟩
theorem Tryz.lays190:Go.Proofs.Lays.n190 Tryz.prog Tryz.lays190_ren:={
 mixed:=by kernel_rfl
 f125:=Tryz.func218.trans (congrArg some (by kernel_rfl))
 f128:=Tryz.func238.trans (congrArg some (by kernel_rfl))
 f129:=Tryz.func239.trans (congrArg some (by kernel_rfl))
 f190:=Tryz.func204.trans (congrArg some (by kernel_rfl))
 f258:=Tryz.func217.trans (congrArg some (by kernel_rfl))
 f302:=Tryz.func229.trans (congrArg some (by kernel_rfl))
 f303:=Tryz.func230.trans (congrArg some (by kernel_rfl))
 f304:=Tryz.func231.trans (congrArg some (by kernel_rfl))
 f305:=Tryz.func232.trans (congrArg some (by kernel_rfl))
 f306:=Tryz.func233.trans (congrArg some (by kernel_rfl))
 f307:=Tryz.func234.trans (congrArg some (by kernel_rfl))
 f308:=Tryz.func235.trans (congrArg some (by kernel_rfl))
 f309:=Tryz.func236.trans (congrArg some (by kernel_rfl))
 f310:=Tryz.func237.trans (congrArg some (by kernel_rfl))
 f329:=Tryz.func246.trans (congrArg some (by kernel_rfl))
 f330:=Tryz.func247.trans (congrArg some (by kernel_rfl))
 f333:=Tryz.func245.trans (congrArg some (by kernel_rfl))
 f334:=Tryz.func248.trans (congrArg some (by kernel_rfl))
 f335:=Tryz.func249.trans (congrArg some (by kernel_rfl))
 f336:=Tryz.func250.trans (congrArg some (by kernel_rfl))
 f344:=Tryz.func254.trans (congrArg some (by kernel_rfl))
 t0:=Tryz.underlying0
 a0:=Tryz.isAgg0
 z0:=Tryz.sizeOf0
 v0:=Tryz.zeroValue0
 t3:=Tryz.underlying3
 a3:=Tryz.isAgg3
 z3:=Tryz.sizeOf3
 v3:=Tryz.zeroValue3
 t4:=Tryz.underlying4
 a4:=Tryz.isAgg4
 z4:=Tryz.sizeOf4
 v4:=Tryz.zeroValue4
 t5:=Tryz.underlying5
 a5:=Tryz.isAgg5
 z5:=Tryz.sizeOf5
 v5:=Tryz.zeroValue5
 t9:=Tryz.underlying9
 a9:=Tryz.isAgg9
 z9:=Tryz.sizeOf9
 v9:=Tryz.zeroValue9
 t31:=Tryz.underlying57
 a31:=Tryz.isAgg57
 z31:=Tryz.sizeOf57
 v31:=Tryz.zeroValue57
 t46:=Tryz.underlying244
 a46:=Tryz.isAgg244
 z46:=Tryz.sizeOf244
 v46:=Tryz.zeroValue244
 t51:=Tryz.underlying293
 a51:=Tryz.isAgg293
 z51:=Tryz.sizeOf293
 v51:=Tryz.zeroValue293
 t53:=Tryz.underlying254
 a53:=Tryz.isAgg254
 z53:=Tryz.sizeOf254
 v53:=Tryz.zeroValue254
 t131:=Tryz.underlying135
 a131:=Tryz.isAgg135
 z131:=Tryz.sizeOf135
 v131:=Tryz.zeroValue135
 t182:=Tryz.underlying285
 a182:=Tryz.isAgg285
 z182:=Tryz.sizeOf285
 v182:=Tryz.zeroValue285
 t183:=Tryz.underlying286
 a183:=Tryz.isAgg286
 z183:=Tryz.sizeOf286
 v183:=Tryz.zeroValue286
 t218:=Tryz.underlying300
 a218:=Tryz.isAgg300
 z218:=Tryz.sizeOf300
 v218:=Tryz.zeroValue300
 t222:=Tryz.underlying304
 a222:=Tryz.isAgg304
 z222:=Tryz.sizeOf304
 v222:=Tryz.zeroValue304
 t228:=Tryz.underlying307
 a228:=Tryz.isAgg307
 z228:=Tryz.sizeOf307
 v228:=Tryz.zeroValue307
 t229:=Tryz.underlying308
 a229:=Tryz.isAgg308
 z229:=Tryz.sizeOf308
 v229:=Tryz.zeroValue308}
end Go.Proofs
