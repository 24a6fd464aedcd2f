/- What table.with answers of each mnemonic. -/
import Derived.Test.YtpjjgpjhpobkiaaGreatDoorMW0
import Derived.Test.YtpjjgpjhpobkiaaGreatDoorMW2
namespace Go.Proofs.YtpjjgpjhpobkiaaGreatDoor
namespace Ex
open Go.RowKit
theorem JC {nm:List Nat}(h:nm∈fe):nm∈YF∨nm∈YE∨nm∈YD∨nm∈YC∨nm∈YB∨nm∈YA∨nm∈Yz∨nm∈Yy:=by
 rw[Kk adG] at h
 simpa only[List.mem_append,or_assoc] using h
theorem vC {nm:List Nat}(h:nm∈fe):eU dN bY nm=true:=by
 rcases JC h with h|h|h|h|h|h|h|h
 ·exact aU T9 h
 ·exact aU TZ h
 ·exact aU TY h
 ·exact aU TW h
 ·exact aU TV h
 ·exact aU TU h
 ·exact aU TS h
 ·exact aU TR h
theorem Rn {nm:List Nat}(h:nm∈fe):eU oW lL nm=true:=by
 rcases JC h with h|h|h|h|h|h|h|h
 ·exact aU acJ h
 ·exact aU acI h
 ·exact aU acH h
 ·exact aU acG h
 ·exact aU acF h
 ·exact aU acE h
 ·exact aU acD h
 ·exact aU acC h
theorem acs {nm:List Nat}(h:nm∈fe):eU kR jG nm=true:=by
 rcases JC h with h|h|h|h|h|h|h|h
 ·exact aU acB h
 ·exact aU acA h
 ·exact aU acz h
 ·exact aU acy h
 ·exact aU acx h
 ·exact aU acw h
 ·exact aU acv h
 ·exact aU acu h
end Ex
