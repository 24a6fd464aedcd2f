/- Parts of the proof of TopLines. -/
import Derived.Test.YtpjjgpjhpobkiaaGreatDoorMX2
import Derived.Test.YtpjjgpjhpobkiaaGreatDoorCards
import Derived.Test.YtpjjgpjhpobkiaaGreatDoorTie
import Derived.ProofKit
import Derived.OpenShut
import Derived.Deep.DeepHandedRow
import Derived.Lib.LaidTab
set_option maxRecDepth 100000
namespace Go.Proofs.YtpjjgpjhpobkiaaGreatDoor
section
open Go.ChangeShapes Go.WideShapes Go.ChangeAt Go.RowKit Go.ChangeMaps
theorem own:ownKnob Tryz.prog.godebug=none:=by kernel_rfl
theorem laidOut:laidOutB Tryz.prog=true:=by kernel_rfl
def aj9:List Int:=[0,0,0,0,0,0,0,0,0,1,1,1,1,1,0,0,0,0,0,0,0,0,0,0,0,0,0,0,0,0,0,0,1]++List.replicate 223 0
def dbL:List Int:=Lib.deBruijn64tab.map fun (n:Nat)=>(n:Int)
theorem afq {W:World}(h:laidMet Tryz.prog Rows.topLinesRow.laid W):Lib.TabIs Tryz.prog W "strings.asciiSpace" .u8 aj9:=by
 have h2:=laidMet.filter (fun x=>x.1 == "strings.asciiSpace") h
 rw[show (Rows.topLinesRow.laid.filter fun x=>x.1 == "strings.asciiSpace")=[("strings.asciiSpace",Lib.tabData .u8 aj9)] by kernel_rfl] at h2
 exact Lib.tabIs_of_head (g:=2) (t:=408) zz zz Tryz.underlying408 Tryz.underlying5 zz zz h2
theorem ajH {W:World}(h:laidMet Tryz.prog Rows.topLinesRow.laid W):Lib.TabIs Tryz.prog W "math/bits.deBruijn64tab" .u8 dbL:=by
 have h2:=laidMet.filter (fun x=>x.1 == "math/bits.deBruijn64tab") h
 rw[show (Rows.topLinesRow.laid.filter fun x=>x.1 == "math/bits.deBruijn64tab")=[("math/bits.deBruijn64tab",Lib.tabData .u8 dbL)] by kernel_rfl] at h2
 exact Lib.tabIs_of_head (g:=1) (t:=223) zz zz Tryz.underlying223 Tryz.underlying5 zz zz h2
theorem RI {zs:List Int}{l:List Value}(e:l=zs.map fun z=>Value.int .u8 z){j:Nat}{v:Value}(h:l[j]? =some v):j < zs.length∧v= .int .u8 (zs.getD j 0):=by
 subst e;rw[yh] at h;obtain⟨z,hz,rfl⟩:=zi.1 h;have hj:=(zf.1 hz).1;exact⟨hj,by rw[List.getD_eq_getElem?_getD,hz];rfl⟩
theorem ajb {W:World}(h:laidMet Tryz.prog Rows.topLinesRow.laid W):Ex.eT W:=fun g l hg j v hj=>by
 unfold Ex.bE at hg;by_cases h0:2=g
 ·subst h0;rw[Ex.aA] at hg;obtain rfl:=zq hg;obtain⟨h1,rfl⟩:=RI (zs:=aj9) zz hj;exact (afq h).cell zz j h1
 ·rw[Ex.aD _ _ h0] at hg;by_cases h3:1=g
  ·subst h3;rw[Ex.aA] at hg;obtain rfl:=zq hg;obtain⟨h1,rfl⟩:=RI (zs:=dbL) zz hj;exact (ajH h).cell zz j h1
  ·rw[Ex.aD _ _ h3] at hg
   cases hg
theorem aiw {W:World}(h:laidMetH Tryz.prog Rows.topLinesRow.laid W):laidMet Tryz.prog Rows.topLinesRow.laid W:=h
def rQ (cs:List Value):Obj→Obj
 | .cells _ t frozen=>.cells cs.toArray t frozen
 |o=>o
def cellsD:Nat→DataW Unit→List Value
 |_,.lit (.int k n)=>[.int k n]
 |f+1,.agg ds=>ds.flatMap (cellsD f)
 |_,_=>[]
def apP:List Value:=[9,13,1,32,133,101,160,5760,5600,8192,8202,1,8232,8233,1,8239,8287,48,12288,12288,1].map fun (n:Nat)=>Value.int .u16 n
noncomputable def hold (os:Os):World:=World.holding Tryz.prog os ⟨#[],#[],[]⟩
noncomputable def qD (os:Os):World:=
 { hold os with heap:=((((((((((hold os).heap.modify 2 (rQ (cellsD 3 Rows.laid_strings_asciiSpace))).modify 1 (rQ (cellsD 3 Rows.laid_math_bits_deBruijn64tab))).modify 7 (rQ (cellsD 3 Rows.laid_math_bits_deBruijn32tab))).modify 3 (rQ (cellsD 3 Rows.laid_internal_strconv_uint64pow10))).modify 5 (rQ (cellsD 3 Rows.laid_unicode_utf8_first))).modify 6 (rQ (cellsD 3 Rows.laid_unicode_utf8_acceptRanges))).modify 4 (rQ [.pointer (some ⟨(hold os).heap.size+1,0,none⟩)])).push (.cells apP.toArray 500 (0,0))).push (.cells #[.slice (some ⟨(hold os).heap.size,0,none⟩) 7 7,.slice none 0 0,.int .i64 2] 497 (0,0)))}
def LC:Array Value:=#[.slice none 0 0]
def plc:List (Nat×Nat):=[(7,32),(1,64),(3,20),(6,32),(4,1),(15,3),(14,21),(2,256),(5,256)]
def al5:List MemPlace:=plc.flatMap fun x=>MemPlace.row ⟨x.1,0,none⟩ x.2
theorem mem_row {b n:Nat}{p:MemPlace}(h:p∈MemPlace.row ⟨b,0,none⟩ n):∃i,p= .cell b i:=by
 unfold MemPlace.row at h;obtain⟨i,_,rfl⟩:=zX.1 h;exact⟨_,rfl⟩
theorem DR:∀{l:List (Nat×Nat)},(l.map (·.1)).Nodup→(l.flatMap fun x=>MemPlace.row ⟨x.1,0,none⟩ x.2).Nodup
 |[],_=>xW
 |x::l,h=>by
  rw[zO,yA] at h;rw[yM,xK];refine⟨?_,DR h.2,fun a ha b hb e=>?_⟩
  ·unfold MemPlace.row;refine List.Pairwise.map _ (fun a b hab e=>hab ?_) List.nodup_range
   injection e with _ e2
   simpa using e2
  ·subst e;obtain⟨i,rfl⟩:=mem_row ha;obtain⟨y,hy,hb⟩:=wO.1 hb;obtain⟨k,e⟩:=mem_row hb;injection e with e1 _
   exact h.1 (zX.2 ⟨y,hy,e1.symm⟩)
noncomputable def ak1 (os:Os):World:=((qD os).forCall (fun _ _=>0) ⟨#[],LC,[]⟩).memory
theorem run_eq (os:Os):DataW.laidRun Tryz.prog (ak1 os) 8 (Rows.topLinesRow.laid.map (·.1))=some (Rows.topLinesRow.laid,al5):=by kernel_rfl
theorem rows_ok (os:Os):laidRowsB Tryz.prog (ak1 os) al5=true:=by kernel_rfl
theorem Zx (os:Os):laidMet Tryz.prog Rows.topLinesRow.laid ((qD os).forCall (fun _ _=>0) ⟨#[],LC,[]⟩).memory:=
 laidMet_of_run 8 (run_eq os) (zC (DR zx)) (rows_ok os)
end
section
def clo:List FuncId:=[3,4,13,29,67,125,126,72,133,206,24,275,339,11,25,26,61,116,189,117,118,119,190,54,106,174,68,127,128,6,16,38,83,39,84,151,155,152,153,45,85,154,219,281,282,342,214,279,221,283,284,343,344,383,220,86,156,63,121,191,157,65,87,158,17,40,43,41,90,42,88,159,44,91,161,96,47,94,164,226,292,293,348,394,395,89,160,177,240,239,238,303,304,305,306,50,97,166,167,232,233,298,297,299,234,235,300,301,349,60,98,307,308,309,46,92,162,93,163,222,223,285,286,288,345,287,328,363,413,364,365,366,367,414,368,369,370,371,372,373,415,374,375,225,290,347,393,346,384,390,427,385,422,386,423,424,387,425,426,444,388,389,391,392,291,224,289,48,95,165,227,294,228,295,176,178,175,229,296,230,231,20,56,108,109,110,102,57,52,100,169,101,58,111,179,241,180,53,103,170,237,302,104,171,172,105,173,112,181,183,249,182,242,244,243,310,350,311,351,245,246,247,248,312,352,353,396,397,398,429,445,428,399,400,401,402,403,404,405,406,313,354,314,113,185,184,114,186,187,250,315,355,251,316,252,188,69,129,130,194,256,257,319,357,318,320,258,8,21,59,115,321,358,410,262,322,269,327,259,260,196,264,324,360,323,359,411,265,263,267,268,326,266,325,361,362,412,435,270,329,330,376,195,261,197,9,271,331,332,377,378,416,203,333,334,379,417,436,437,236,335,380,418,438,439,440,419,441,107,420,442,443,434,448,449,450,451,454,452,453,10,22,23,198,272,336,337,381,421,199,66,30,71,131,200,62,120,201,273,338,132,202,204,274,205,70,51,99,168,14,31,73,134,208,207,209,211,276,210,213,278,341,277,340,382,212,135,215,280,216,136,137,12,27,7,18,49,19,55,28,64,122,123,193,254,255,317,356,407,408,430,409,431,446,432,433,447,192,253,124,5,15,32,33,34,74,138,145,139,140,217,143,218,144,148,76,146,147,141,142,75,77,78,149,79,35,80,36,37,81,150,82]
theorem QS:Tryz.prog.closure 3=clo:=by kernel_rfl
theorem Xm:Tryz.prog.unfollowed 3=true:=by
 unfold Program.unfollowed;rw[QS]
 kernel_rfl
theorem avh {a b:Bool}(ha:a=true)(hb:b=true):(a && b)=true:=by rw[ha,hb];rfl
theorem anM:(Rows.topLinesRow.wf (OpenSpec.ofChange (OpenSpec.ofChange Rows.topLinesSpec).bare))=true:=by
 kernel_rfl
theorem anL:(laidOutB Tryz.prog)=true:=by
 kernel_rfl
theorem anK:(mapsRowed Tryz.prog)=true:=by
 kernel_rfl
theorem anJ:(Tryz.f3.params.all (Tryz.prog.readableRec ·))=true:=by
 kernel_rfl
theorem anI:(namedTie Tryz.prog Rows.topLinesRow.named (OpenSpec.ofChange Rows.topLinesSpec).bare.vars)=true:=by
 kernel_rfl
theorem anH:((Rows.topLinesRow.stops == []))=true:=by
 kernel_rfl
theorem anG:((Tryz.prog.stops == []))=true:=by
 kernel_rfl
theorem anF:((Rows.topLinesRow.knobs == []))=true:=by
 kernel_rfl
theorem anE:((Tryz.prog.stopKnobs == []))=true:=by
 kernel_rfl
theorem anD:((Rows.topLinesRow.inPlace == Tryz.prog.inPlace 3))=true:=by
 unfold Program.inPlace;rw[QS]
 kernel_rfl
theorem ajz:((Rows.topLinesRow.unfollowed == Tryz.prog.unfollowed 3))=true:=by
 rw[Xm]
 kernel_rfl
theorem ajy:((Rows.topLinesRow.recurses == Tryz.prog.recurses 3))=true:=by
 unfold Program.recurses;rw[Xm]
 kernel_rfl
theorem ajx:((Rows.topLinesRow.named == Tryz.prog.varsNamed 3))=true:=by
 unfold Program.varsNamed;rw[QS]
 kernel_rfl
theorem ajw:((Rows.topLinesRow.maps == (Tryz.f3.params.toList++(OpenSpec.ofChange Rows.topLinesSpec).bare.plain.varTypes Tryz.prog).any (Tryz.prog.mapsRec ·)))=true:=by
 kernel_rfl
theorem ajv:((Rows.topLinesRow.ifaces == (Tryz.f3.params.toList++(OpenSpec.ofChange Rows.topLinesSpec).bare.plain.varTypes Tryz.prog).any (Tryz.prog.ifacesRec ·)))=true:=by
 kernel_rfl
theorem aju:((Rows.topLinesRow.mapsOut == Tryz.prog.mapsAmong Tryz.f3.resultTypes.toList))=true:=by
 kernel_rfl
theorem ajt:((Rows.topLinesRow.loops == (Tryz.f3.params.toList++(OpenSpec.ofChange Rows.topLinesSpec).bare.plain.varTypes Tryz.prog).any (Tryz.prog.loopsFrom ·)))=true:=by
 kernel_rfl
theorem ajs:((Rows.topLinesRow.wideKeys == (Tryz.f3.params.toList++(OpenSpec.ofChange Rows.topLinesSpec).bare.plain.varTypes Tryz.prog++Tryz.f3.resultTypes.toList).any (Tryz.prog.wideKeysFrom ·)))=true:=by
 kernel_rfl
theorem ajr:((OpenSpec.ofChange Rows.topLinesSpec).bare.vars.all (Tryz.prog.varReadable ·))=true:=by
 kernel_rfl
theorem ajq:(Tryz.f3.resultTypes.all (fun t=>Tryz.prog.readableRec t && decide (t < Tryz.prog.types.size)))=true:=by
 kernel_rfl
theorem ajp:((Rows.topLinesRow.ifacesOut == Tryz.f3.resultTypes.toList.any (Tryz.prog.ifacesRec ·)))=true:=by
 kernel_rfl
theorem ajo:((Rows.topLinesRow.loopsOut == Tryz.f3.resultTypes.toList.any (Tryz.prog.loopsFrom ·)))=true:=by
 kernel_rfl
theorem ajn:((Rows.topLinesRow.plainKeys == Tryz.prog.plainKeys))=true:=by
 kernel_rfl
theorem ajm:(Rows.topLinesRow.shortTexts.isNone)=true:=by
 kernel_rfl
theorem ajl:(Tryz.prog.stopsHeard)=true:=by
 kernel_rfl
theorem ajk:(Tryz.prog.mayEnter)=true:=by
 kernel_rfl
theorem ajj:((Rows.topLinesRow.lifted == Tryz.prog.liftsFinal))=true:=by
 kernel_rfl
theorem aji:((Tryz.prog.make == some Rows.topLinesRow.make))=true:=by
 kernel_rfl
theorem arh:((Rows.topLinesRow.kinds == (if Rows.topLinesRow.domain.isEmpty then [] else Tryz.f3.params.toList.map fun t=>match Tryz.prog.underlying t with|some (.int k)=>some k|_=>none)))=true:=by
 kernel_rfl
theorem ajh:((Rows.topLinesRow.pinned == Rows.topLinesRow.pinnedBy))=true:=by
 kernel_rfl
theorem ajg:((Rows.topLinesRow.veiled == (Tryz.f3.params.toList++(OpenSpec.ofChange Rows.topLinesSpec).bare.plain.varTypes Tryz.prog++Tryz.f3.resultTypes.toList).any (Tryz.prog.veiledRec ·)))=true:=by
 kernel_rfl
theorem ajf:(Rows.topLinesRow.veiledFits Tryz.prog Tryz.f3.params.toList (Tryz.f3.params.toList++(OpenSpec.ofChange Rows.topLinesSpec).bare.plain.varTypes Tryz.prog++Tryz.f3.resultTypes.toList))=true:=by
 kernel_rfl
theorem closed:joinedFacts Tryz.prog 3 Tryz.f3 (OpenSpec.ofChange Rows.topLinesSpec).bare Rows.topLinesRow=true:=by
 unfold joinedFacts;rw[anM,anL,anK,anJ,anI,anH,anG,anF,anE,anD,ajz,ajy,ajx,ajw,ajv,aju,ajt,ajs,ajr,ajq,ajp,ajo,ajn,ajm,ajl,ajk,ajj,aji,ajh,ajg,ajf];simp only[Bool.and_true,Bool.true_and]
 kernel_rfl
theorem U7:Tryz.prog.funcs.any Func.goes=false:=by kernel_rfl
theorem VL {P:Program}(h:P.funcs.any Func.goes=false)(f:FuncId):P.goes f=false:=by
 have h1:∀g:Nat,(P.funcs[g]?).any Func.goes=false:=fun g=>by
  cases hg:P.funcs[g]? with
  |none=>rfl
  |some fn=>
   have:=(Array.any_eq_false.1 h);obtain⟨hlt,e⟩:=zT.1 hg;have h2:=this g hlt;rw[e] at h2
   simpa using h2
 unfold Program.goes;rw[h,Bool.and_false,Bool.or_false,List.any_eq_false];intro g _;rw[h1 g];simp
theorem VM {P:Program}(h:P.funcs.any Func.goes=false)(s:String):P.goesFrom s=false:=by
 unfold Program.goesFrom
 cases P.funcNamed s with
 |none=>rfl
 |some f=>exact VL h f
theorem aeI {P:Program}(h:P.funcs.any Func.goes=false)(s:String):P.goesAt .entering s=false:=by
 unfold Program.goesAt;rw[VM h];rfl
theorem Z9:false=Rows.topLinesRow.goesBy Tryz.prog:=(aeI U7 Rows.topLinesRow.func).symm
end
