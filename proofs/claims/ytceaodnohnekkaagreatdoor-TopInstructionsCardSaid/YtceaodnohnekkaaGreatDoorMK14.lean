/- What table.with answers of each mnemonic. -/
import Derived.Test.YtceaodnohnekkaaGreatDoorMW0
import Derived.Test.YtceaodnohnekkaaGreatDoorMW1
import Derived.Test.YtceaodnohnekkaaGreatDoorMW2
namespace Go.Proofs.YtceaodnohnekkaaGreatDoor.Ex
open Go.RowKit
theorem Dk {nm:List Nat}(h:nm∈dY):nm∈ZL∨nm∈ZK∨nm∈ZJ∨nm∈ZI∨nm∈ZH∨nm∈ZG∨nm∈ZF∨nm∈ZE:=by
 rw[D8 agj] at h
 simpa only[List.mem_append,or_assoc] using h
theorem rV {nm:List Nat}(h:nm∈dY):eu dQ dA nm=true:=by
 rcases Dk h with h | h | h | h | h | h | h | h
 ·exact aV Sz h
 ·exact aV Sy h
 ·exact aV Sw h
 ·exact aV Sv h
 ·exact aV Su h
 ·exact aV Sr h
 ·exact aV Sq h
 ·exact aV Sn h
theorem Ob {nm:List Nat}(h:nm∈dY):eu oQ mI nm=true:=by
 rcases Dk h with h | h | h | h | h | h | h | h
 ·exact aV afg h
 ·exact aV aff h
 ·exact aV afe h
 ·exact aV afd h
 ·exact aV afc h
 ·exact aV afb h
 ·exact aV afa h
 ·exact aV ae9 h
theorem ae0 {nm:List Nat}(h:nm∈dY):eu ku jw nm=true:=by
 rcases Dk h with h | h | h | h | h | h | h | h
 ·exact aV ae8 h
 ·exact aV ae7 h
 ·exact aV ae6 h
 ·exact aV ae5 h
 ·exact aV ae4 h
 ·exact aV ae3 h
 ·exact aV ae2 h
 ·exact aV ae1 h
end Go.Proofs.YtceaodnohnekkaaGreatDoor.Ex
