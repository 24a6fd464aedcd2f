/- The statement TopPrefixes: for all pages, opcodes and numbers the law returns true. -/
import Derived.Test.YtpjcgimgiegehaaGreatDoorMTb
import Derived.Test.YtpjcgimgiegehaaGreatDoorMK5
import Derived.Test.YtpjcgimgiegehaaGreatDoorMK9
import Derived.Test.YtpjcgimgiegehaaGreatDoorMK10
namespace Go.Proofs.YtpjcgimgiegehaaGreatDoor
open Go.RowKit Ex

theorem alive_any (w : World) (hG : GlT w) : Calls Tryz.prog 5 #[] w fun e w' => e = .returned (.bool true) ∧ Below w.heap.size w w' := by
  have h : entB (runS STl) glT 5 ([], .bool true, 49555, []) = true := by
    have := entsAlive_ok
    simp only [entsAlive, entsAlive0, List.all_cons, List.all_nil, Bool.and_true] at this
    exact this
  obtain ⟨_, hr⟩ := entB_run h
  obtain ⟨_, _, q3⟩ := runS_ok hMix STl_ok _ _ _ _ _ hr
  refine Calls.mono (show Calls Tryz.prog 5 #[] w _ from q3 w env0 w trivial (wrep0 hG _)) ?_
  rintro e w' ⟨ρ', rfl, hP, _⟩
  exact ⟨rfl, hP.no_below rfl⟩
def short3 (d : OpD) : Bool := Nat.ble d.2.2.2.2.length 9
theorem short3_all : allT (fun _ _ d => short3 d) 0 ods = true := by kernel_rfl
theorem mod7 (a : Nat) (ha : a < 256) : (wrap64 (a : Int)).tmod 7 = ((a % 7 : Nat) : Int) := by
  have e : wrap64 (a : Int) = a := by
    unfold wrap64
    omega
  rw [e, Int.tmod_eq_emod_of_nonneg (by omega)]
  omega
theorem bytes_is {w : World} (hG : GlT w) {p o : Nat} {d : OpD} (hd : opD p o = some d) (hk : d.1 = 1) (x y : Int) :
    BytesIs w (p : Int) (o : Int) (bstr d.2.1) (d.2.2.2.2.length / 3) (bstr d.2.2.1) d.2.2.2.1 (fun W A c => RowAt w.heap.size W A c (opVs d)) x y (bytL p o d.2.2.1 x y).length (bytL p o d.2.2.1 x y) (okR d.2.2.1 x y) := fun W A c hb hr => by
  have ho := (ent_spec hd hk).2.2.2
  have hl : (bytR p (.int .u8 (o : Int)) d.2.2.1 x y).length = (bytL p o d.2.2.1 x y).length := by rw [bytR_bs p ho, bs_length]
  refine (bytes_at hG hb hd hk hr x y).mono ?_
  rintro e w' ⟨A', c', rfl, h1, h2, h3⟩
  rw [hl] at h1
  rw [bytR_bs p ho] at h2
  exact ⟨A', c', by rw [hl], h1, h2, h3⟩
theorem at_legal {w : World} (hG : GlT w) {p o : Nat} {d : OpD} (hd : opD p o = some d) (hk : d.1 = 1) : AtLegal w (p : Int) (o : Int) (bstr d.2.1) (d.2.2.2.2.length / 3) (bstr d.2.2.1) d.2.2.2.1 (fun W A c => RowAt w.heap.size W A c (opVs d)) := fun W hb =>
  (at_any hd hk W (hG.after hb)).mono fun _ _ ⟨A, c, he, hr, hb'⟩ => ⟨A, c, he, hr.mono hb.size, hb'⟩
theorem rt_legal {w : World} (hG : GlT w) {p o : Nat} {d : OpD} (hd : opD p o = some d) (hk : d.1 = 1) : RtLegal w (p : Int) (o : Int) (bstr d.2.1) (d.2.2.2.2.length / 3) (bstr d.2.2.1) d.2.2.2.1 (fun W A _ => Rd W (fun _ => True) A (opVs d)) := fun W hb =>
  (rt_any hd hk W (hG.after hb)).mono fun _ _ ⟨A, c, he, hr, hb'⟩ => ⟨A, c, he, hr, hb'⟩
theorem same_is (w : World) {p o p' o' : Nat} {d d' : OpD} (hd : opD p o = some d) (hd' : opD p' o' = some d') :
    SameIs w (p : Int) (o : Int) (p' : Int) (o' : Int) (bstr d.2.1) (bstr d'.2.1) (bstr d.2.2.1) (bstr d'.2.2.1) d.2.2.2.1 d'.2.2.2.1 (d.2.2.2.2.length / 3) (d'.2.2.2.2.length / 3) (fun W A _ => Rd W (fun _ => True) A (opVs d)) (fun W A _ => Rd W (fun _ => True) A (opVs d')) (decide (p = p' ∧ o = o')) := fun W A c A' c' hb h h' => by
  by_cases he : p = p' ∧ o = o'
  · obtain ⟨rfl, rfl⟩ := he
    rw [hd] at hd'
    obtain rfl := Option.some.inj hd'
    have h3 := (beq_iff _ _).1 (allT_opD len3_all hd)
    have h9 := Nat.le_of_ble_eq_true (allT_opD short3_all hd)
    have h3 : d.2.2.2.2.length % 3 = 0 := h3
    rw [decide_eq_true (p := p = p ∧ o = o) ⟨rfl, rfl⟩]
    exact r9same_eq _ _ _ _ _ d.2.2.2.2 _ A A' c c' W (by omega) (by omega) h h'
  · rw [decide_eq_false he]
    exact r9same_ne _ _ _ _ _ _ _ _ _ _ _ _ A A' c c' W fun e => he ⟨by omega, by omega⟩
theorem equal_is (L1 L2 : List UInt8) (hl : L1.length ≤ 100) : EqualIs L1 L2 (min L1.length L2.length) (decide (L1.take (min L1.length L2.length) = L2.take (min L1.length L2.length))) := fun W A A' c c' h h' => by
  have e1 : (bs L1).take (min L1.length L2.length) = bs (L1.take (min L1.length L2.length)) := by simp [bs, List.map_take]
  have e2 : (bs L2).take (min L1.length L2.length) = bs (L2.take (min L1.length L2.length)) := by simp [bs, List.map_take]
  have k1 := h.take (min L1.length L2.length)
  have k2 := h'.take (min L1.length L2.length)
  rw [e1] at k1
  rw [e2] at k2
  refine (equal_any A A' (L1.take (min L1.length L2.length)) (L2.take (min L1.length L2.length)) _ _ c c' W _ _ (by rw [List.length_take]; omega) (by rw [List.length_take]; omega) (by rw [List.length_take]; omega) k1 k2).mono ?_
  rintro e w' ⟨he, m, rfl⟩
  exact ⟨he, below_of_drewN _ _ _⟩
theorem bytU_short {p o : Nat} {d : OpD} (hd : opD p o = some d) (hk : d.1 = 1) (x y : Int) : (bytU p o d.2.2.1 x y).length ≤ 100 := by
  obtain ⟨q1, _⟩ := ent_spec hd hk
  have hpre : ((preN p).map UInt8.ofNat).length ≤ 2 := by
    unfold preN
    split <;> simp
  have hlet : ∀ ex : List Nat, (letU x y ex).length ≤ 2 * ex.length := by
    intro ex
    induction ex with
    | nil => simp [letU]
    | cons c l ih =>
      unfold letU
      cases Nat.beq c 100 <;> cases Nat.beq c 119 <;> simp only [cond_true, cond_false, List.length_cons] <;> omega
  have hex : d.2.2.1.length ≤ 2 := by
    unfold exsOk at q1
    cases hp : Nat.ble 5 p with
    | true =>
      rw [hp] at q1
      rw [eqL_eq (show eqL d.2.2.1 [100] = true from q1)]
      simp
    | false =>
      rw [hp] at q1
      simp only [cond_false, Bool.or_eq_true] at q1
      rcases q1 with ((((he | he) | he) | he) | he) | he <;> rw [eqL_eq he] <;> simp
  unfold bytU
  rw [List.length_append]
  have h1 := hlet d.2.2.1
  have h2 := hlet d.2.2.1.tail
  have h3 : d.2.2.1.tail.length ≤ d.2.2.1.length := by simp
  cases Nat.ble 5 p <;> simp only [cond_true, cond_false, List.length_cons] <;> omega
theorem tp_law (a0 a1 o0 o1 : Nat) (x0 x1 x2 x3 : Int) (ha0 : a0 < 256) (ha1 : a1 < 256) (ho0 : o0 < 256) (ho1 : o1 < 256) (w : World) (hG : GlT w) :
    Calls Tryz.prog 3 #[.agg #[.int .u8 (a0 : Int), .int .u8 (a1 : Int)], .agg #[.int .u8 (o0 : Int), .int .u8 (o1 : Int)], .agg #[.int .i64 x0, .int .i64 x1, .int .i64 x2, .int .i64 x3]] w fun e w' => e = .returned (.bool true) ∧ Below w.heap.size w w' := by
  obtain ⟨d, hd⟩ := opD_some (p := a0 % 7) (o := o0) (by omega) ho0
  obtain ⟨d', hd'⟩ := opD_some (p := a1 % 7) (o := o1) (by omega) ho1
  have C3 : AliveIs w := fun W hb => alive_any W (hG.after hb)
  by_cases hk : d.1 = 1 ∧ d'.1 = 1
  · obtain ⟨hk, hk'⟩ := hk
    have K1 : Keeps (fun W A c => RowAt w.heap.size W A c (opVs d)) := fun W W' A c h hb => h.after hb
    have K2 : Keeps (fun W A c => RowAt w.heap.size W A c (opVs d')) := fun W W' A c h hb => h.after hb
    cases hr : okR d.2.2.1 x0 x1 with
    | false =>
      have C4 := bytes_is hG hd hk x0 x1
      rw [hr] at C4
      exact tp_bad _ _ _ _ _ _ x0 x1 x2 x3 w (mod7 a0 ha0) (mod7 a1 ha1) _ _ _ _ _ _ _ _ _ _ _ _ _ _ _ _ (Lib.hid K1) (Lib.hid K2) (Lib.hid (at_legal hG hd hk)) (Lib.hid (at_legal hG hd' hk')) (Lib.hid C3) (Lib.hid C4) (Lib.hid (bytes_is hG hd' hk' x2 x3)) (.inl rfl)
    | true =>
    cases hr' : okR d'.2.2.1 x2 x3 with
    | false =>
      have C4 := bytes_is hG hd hk x0 x1
      rw [hr] at C4
      have C5 := bytes_is hG hd' hk' x2 x3
      rw [hr'] at C5
      exact tp_bad _ _ _ _ _ _ x0 x1 x2 x3 w (mod7 a0 ha0) (mod7 a1 ha1) _ _ _ _ _ _ _ _ _ _ _ _ _ _ _ _ (Lib.hid K1) (Lib.hid K2) (Lib.hid (at_legal hG hd hk)) (Lib.hid (at_legal hG hd' hk')) (Lib.hid C3) (Lib.hid C4) (Lib.hid C5) (.inr ⟨rfl, rfl⟩)
    | true =>
      have C4 := bytes_is hG hd hk x0 x1
      rw [hr] at C4
      have C5 := bytes_is hG hd' hk' x2 x3
      rw [hr'] at C5
      have e1 : bytL (a0 % 7) o0 d.2.2.1 x0 x1 = bytU (a0 % 7) o0 d.2.2.1 x0 x1 := by unfold bytL; rw [if_pos hr]
      have e2 : bytL (a1 % 7) o1 d'.2.2.1 x2 x3 = bytU (a1 % 7) o1 d'.2.2.1 x2 x3 := by unfold bytL; rw [if_pos hr']
      rw [e1] at C4
      rw [e2] at C5
      refine tp_main _ _ _ _ _ _ x0 x1 x2 x3 w (mod7 a0 ha0) (mod7 a1 ha1) _ _ _ _ _ _ _ _ _ _ _ _ _ _ _ _ _ _ _ _ _ _ _ _ _ (Lib.hid K1) (Lib.hid K2) (Lib.hid fun W W' A c h hb => h.after hb) (Lib.hid fun W W' A c h hb => h.after hb) (Lib.hid (at_legal hG hd hk)) (Lib.hid (at_legal hG hd' hk')) (Lib.hid C3) (Lib.hid C4) (Lib.hid C5) (Lib.hid (rt_legal hG hd hk)) (Lib.hid (rt_legal hG hd' hk'))
        (decide (a0 % 7 = a1 % 7 ∧ o0 = o1)) (x0 == x2) (x1 == x3) _ (Lib.hid (same_is w hd hd')) (Lib.hid (equal_is _ _ (bytU_short hd hk x0 x1))) (by omega) (Nat.min_le_left _ _) (Nat.min_le_right _ _) rfl rfl ?_
      rw [prefix_law hd hd' hk hk' hr hr']
      rfl
  · refine tp_other _ _ _ _ _ _ x0 x1 x2 x3 (d.1 : Int) (d'.1 : Int) w (mod7 a0 ha0) (mod7 a1 ha1) (Lib.hid fun W hb => at_other hd W (hG.after hb)) (Lib.hid fun W hb => at_other hd' W (hG.after hb)) (Lib.hid C3) ?_
    by_cases h1 : d.1 = 1
    · exact .inr ⟨by omega, fun e => hk ⟨h1, by omega⟩⟩
    · exact .inl (by omega)
end Go.Proofs.YtpjcgimgiegehaaGreatDoor
