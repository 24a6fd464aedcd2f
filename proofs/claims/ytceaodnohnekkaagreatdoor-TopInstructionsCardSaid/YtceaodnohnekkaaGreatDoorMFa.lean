/- Parts of the proof of TopInstructions. -/
import Derived.Test.YtceaodnohnekkaaGreatDoorMZ
import Derived.Test.YtceaodnohnekkaaGreatDoorTie
import Derived.JoinedCond
namespace Go.Proofs.YtceaodnohnekkaaGreatDoor
def clo:List FuncId:=[3,4,13,29,54,105,106,60,114,168,228,229,306,169,230,170,231,307,369,308,309,310,370,115,171,232,55,107,108,154,206,272,328,273,329,383,313,384,385,141,330,386,411,439,440,457,179,236,202,441,442,458,459,462,238,331,387,122,187,244,165,125,332,388,207,274,277,275,335,276,333,389,278,336,391,188,280,64,126,194,249,250,324,378,379,334,390,325,381,380,195,251,252,253,254,123,189,245,246,317,318,374,373,375,319,320,376,377,410,243,190,255,256,257,279,337,392,338,393,412,413,443,444,446,460,445,294,350,402,351,352,353,354,403,355,356,357,358,359,360,404,361,362,288,344,399,431,398,422,428,456,423,451,424,452,453,425,454,455,461,426,427,429,430,345,135,198,281,339,394,414,447,415,448,449,67,128,416,450,417,418,340,395,419,420,421,68,76,241,314,372,315,15,33,65,127,66,34,69,129,139,199,70,28,130,71,131,35,72,74,140,73,132,134,133,196,258,197,259,136,137,138,104,151,203,204,261,262,263,327,382,326,264,265,266,267,268,269,270,271,152,205,153,36,75,12,37,77,78,142,200,260,143,201,144,79,56,109,110,155,208,209,283,341,282,284,210,285,342,396,81,286,343,397,214,287,221,293,211,212,157,216,290,347,289,346,400,217,215,219,220,292,218,291,348,349,401,432,222,295,296,363,156,213,158,59,223,297,298,364,365,405,145,299,300,366,406,433,434,304,301,367,407,435,436,437,408,438,316,5,16,17,38,80,39,82,83,146,84,85,183,186,239,159,224,302,303,368,409,160,53,30,58,112,162,121,182,163,226,305,113,164,166,227,167,57,111,161,225,14,31,61,116,173,172,174,176,233,175,178,235,312,234,311,371,177,117,180,237,181,118,119,32,62,120,184,240,185,242,63,124,191,192,248,322,323,7,24,50,51,100,52,101,10,102,103,150,247,321,193,6,18,40,86,41,87,147,9,26,27,19,20,21,42,88,95,89,90,148,93,149,94,98,44,96,97,91,92,43,45,46,11,47,22,23,48,99,49,8,25]
theorem NK:Tryz.prog.closure 3=clo:=by kernel_rfl
theorem Xv:Tryz.prog.unfollowed 3=true:=by
 unfold Program.unfollowed
 rw[NK]
 kernel_rfl
theorem atT:(Rows.topInstructionsRow.wf (OpenSpec.ofChange (OpenSpec.ofChange Rows.topInstructionsSpec).bare))=true:=by
 kernel_rfl
theorem atS:(laidOutB Tryz.prog)=true:=by
 kernel_rfl
theorem atQ:(mapsRowed Tryz.prog)=true:=by
 kernel_rfl
theorem atP:(Tryz.f3.params.all (Tryz.prog.readableRec ·))=true:=by
 kernel_rfl
theorem atO:(namedTie Tryz.prog Rows.topInstructionsRow.named (OpenSpec.ofChange Rows.topInstructionsSpec).bare.vars)=true:=by
 kernel_rfl
theorem atN:((Rows.topInstructionsRow.stops == []))=true:=by
 kernel_rfl
theorem atM:((Tryz.prog.stops == []))=true:=by
 kernel_rfl
theorem atL:((Rows.topInstructionsRow.knobs == []))=true:=by
 kernel_rfl
theorem atK:((Tryz.prog.stopKnobs == []))=true:=by
 kernel_rfl
theorem atJ:((Rows.topInstructionsRow.inPlace == Tryz.prog.inPlace 3))=true:=by
 unfold Program.inPlace
 rw[NK]
 kernel_rfl
theorem an1:((Rows.topInstructionsRow.unfollowed == Tryz.prog.unfollowed 3))=true:=by
 rw[Xv]
 kernel_rfl
theorem an0:((Rows.topInstructionsRow.recurses == Tryz.prog.recurses 3))=true:=by
 unfold Program.recurses
 rw[Xv]
 kernel_rfl
theorem anZ:((Rows.topInstructionsRow.named == Tryz.prog.varsNamed 3))=true:=by
 unfold Program.varsNamed
 rw[NK]
 kernel_rfl
theorem anY:((Rows.topInstructionsRow.maps == (Tryz.f3.params.toList++(OpenSpec.ofChange Rows.topInstructionsSpec).bare.plain.varTypes Tryz.prog).any (Tryz.prog.mapsRec ·)))=true:=by
 kernel_rfl
theorem anX:((Rows.topInstructionsRow.ifaces == (Tryz.f3.params.toList++(OpenSpec.ofChange Rows.topInstructionsSpec).bare.plain.varTypes Tryz.prog).any (Tryz.prog.ifacesRec ·)))=true:=by
 kernel_rfl
theorem anW:((Rows.topInstructionsRow.mapsOut == Tryz.prog.mapsAmong Tryz.f3.resultTypes.toList))=true:=by
 kernel_rfl
theorem anV:((Rows.topInstructionsRow.loops == (Tryz.f3.params.toList++(OpenSpec.ofChange Rows.topInstructionsSpec).bare.plain.varTypes Tryz.prog).any (Tryz.prog.loopsFrom ·)))=true:=by
 kernel_rfl
theorem anU:((Rows.topInstructionsRow.wideKeys == (Tryz.f3.params.toList++(OpenSpec.ofChange Rows.topInstructionsSpec).bare.plain.varTypes Tryz.prog++Tryz.f3.resultTypes.toList).any (Tryz.prog.wideKeysFrom ·)))=true:=by
 kernel_rfl
theorem anT:((OpenSpec.ofChange Rows.topInstructionsSpec).bare.vars.all (Tryz.prog.varReadable ·))=true:=by
 kernel_rfl
theorem anS:(Tryz.f3.resultTypes.all (fun t=>Tryz.prog.readableRec t && decide (t < Tryz.prog.types.size)))=true:=by
 kernel_rfl
theorem anR:((Rows.topInstructionsRow.ifacesOut == Tryz.f3.resultTypes.toList.any (Tryz.prog.ifacesRec ·)))=true:=by
 kernel_rfl
theorem anQ:((Rows.topInstructionsRow.loopsOut == Tryz.f3.resultTypes.toList.any (Tryz.prog.loopsFrom ·)))=true:=by
 kernel_rfl
theorem anP:((Rows.topInstructionsRow.plainKeys == Tryz.prog.plainKeys))=true:=by
 kernel_rfl
theorem anO:(Rows.topInstructionsRow.shortTexts.isNone)=true:=by
 kernel_rfl
theorem anN:(Tryz.prog.stopsHeard)=true:=by
 kernel_rfl
theorem anM:(Tryz.prog.mayEnter)=true:=by
 kernel_rfl
theorem anL:((Rows.topInstructionsRow.lifted == Tryz.prog.liftsFinal))=true:=by
 kernel_rfl
theorem anK:((Tryz.prog.make == some Rows.topInstructionsRow.make))=true:=by
 kernel_rfl
theorem anJ:((Rows.topInstructionsRow.pinned == Rows.topInstructionsRow.pinnedBy))=true:=by
 kernel_rfl
theorem anI:((Rows.topInstructionsRow.veiled == (Tryz.f3.params.toList++(OpenSpec.ofChange Rows.topInstructionsSpec).bare.plain.varTypes Tryz.prog++Tryz.f3.resultTypes.toList).any (Tryz.prog.veiledRec ·)))=true:=by
 kernel_rfl
theorem anH:(Rows.topInstructionsRow.veiledFits Tryz.prog Tryz.f3.params.toList (Tryz.f3.params.toList++(OpenSpec.ofChange Rows.topInstructionsSpec).bare.plain.varTypes Tryz.prog++Tryz.f3.resultTypes.toList))=true:=by
 kernel_rfl
set_option maxRecDepth 100000 in
theorem closed:joinedFacts Tryz.prog 3 Tryz.f3 (OpenSpec.ofChange Rows.topInstructionsSpec).bare Rows.topInstructionsRow=true:=by
 unfold joinedFacts
 rw[atT,atS,atQ,atP,atO,atN,atM,atL,atK,atJ,an1,an0,anZ,anY,anX,anW,anV,anU,anT,anS,anR,anQ,anP,anO,anN,anM,anL,anK,anJ,anI,anH]
 simp only[Bool.and_true,Bool.true_and]
 kernel_rfl
end Go.Proofs.YtceaodnohnekkaaGreatDoor
