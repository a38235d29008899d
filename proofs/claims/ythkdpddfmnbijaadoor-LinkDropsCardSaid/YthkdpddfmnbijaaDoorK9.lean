/- Layer 9 (link): the example. No condition. -/
import Derived.Test.YthkdpddfmnbijaaDoorK7
import Derived.Test.YthkdpddfmnbijaaDoorK8
namespace Go.Proofs.YthkdpddfmnbijaaDoor
set_option linter.unusedSimpArgs false
set_option linter.unusedVariables false
set_option maxHeartbeats 4000000
open Go Go.RowKit
set_option maxRecDepth 100000
/-- a contract's arguments may be told more narrowly -/
theorem AF.pre {P : Program} {T0 : Gh} {f : FuncId} {As As' : List AV} {M : List Own} {K : AV → List Own → Prop} {KP : List PanicEntry → List Own → Prop} (h : AF P T0 f As M K KP) (s : SubL As' As) : AF P T0 f As' M K KP := ⟨h.able, fun w0 G F w vs hs hr => h.calls w0 G F w vs hs (s.rep hr)⟩
theorem offer_yes {room : Int} {l : List Cmd} {sent pad : Int} {off : Bool} {c : Cmd} (h : (okL room l sent pad && isCmd c && decide (costM l - sent + lenC c ≤ room)) = true) : offerL room l sent pad off c = tupA [linkA room (l ++ [c]) sent pad off, I 0] := by
  simp only [Bool.and_eq_true, decide_eq_true_eq] at h
  rw [offerL, if_pos h.1, if_neg (by omega)]
theorem offer_full {room : Int} {l : List Cmd} {sent pad : Int} {off : Bool} {c : Cmd} (h : (okL room l sent pad && isCmd c && decide (room < costM l - sent + lenC c)) = true) : offerL room l sent pad off c = tupA [linkA 0 [] 0 0 false, I 5] := by
  simp only [Bool.and_eq_true, decide_eq_true_eq] at h
  rw [offerL, if_pos h.1, if_pos h.2]
theorem offer_no {room : Int} {l : List Cmd} {sent pad : Int} {off : Bool} {c : Cmd} (h : (okL room l sent pad && isCmd c) = false) : offerL room l sent pad off c = tupA [linkA 0 [] 0 0 false, I 1] := by
  rw [offerL, if_neg (fun e => by rw [e.1, e.2] at h; cases h)]
theorem send_yes {room : Int} {l l' : List Cmd} {sent pad g p' : Int} {s' : Nat} {out : List UInt8} (h : okL room l sent pad = true) (e : sendM l sent.toNat pad g = (out, l', s', p')) : sendL room l sent pad false g = tupA [SA out, linkA room l' s' p' false] := by
  rw [sendL, if_pos ⟨h, rfl⟩, e]
theorem send_off {room : Int} {l : List Cmd} {sent pad g : Int} : sendL room l sent pad true g = tupA [SA [], linkA room l sent pad true] := by
  rw [sendL, if_neg (fun h => nomatch h.2)]
attribute [local irreducible] thenA inBlockA AW AL AO QY varO rowO rsA Opd OpdN vA gvA tupA aggA slA slcA ipA rpA EqK LnK IxK LdK FaK FdK
theorem f_linked : AP Tryd.prog tab0 29 [] (B true) := by
  have c1 : AP Tryd.prog tab0 27 [I 8] (tupA [linkA 8 [] 0 0 false, I 0]) := (f_linkNew 8).to (by rw [newL, if_pos (by decide)])
  have c2 : AP Tryd.prog tab0 25 [linkA 8 [] 0 0 false, aggA [I 7, I 0, I 0, R 0]] (tupA [linkA 8 [(7, 0, 0, 0)] 0 0 false, I 0]) := (f_linkOffer 8 [] 0 0 false (7, 0, 0, 0) (by decide)).to (offer_yes (by decide))
  have c3 : AP Tryd.prog tab0 25 [linkA 8 [(7, 0, 0, 0)] 0 0 false, aggA [I 1, I 0, I 0, R 97]] (tupA [linkA 8 [(7, 0, 0, 0), (1, 0, 0, 97)] 0 0 false, I 0]) := (f_linkOffer 8 [(7, 0, 0, 0)] 0 0 false (1, 0, 0, 97) (by decide)).to (offer_yes (by decide))
  have c4 : AP Tryd.prog tab0 25 [linkA 8 [(7, 0, 0, 0), (1, 0, 0, 97)] 0 0 false, aggA [I 2, I 9, I 9, R 0]] (tupA [linkA 0 [] 0 0 false, I 5]) := (f_linkOffer 8 [(7, 0, 0, 0), (1, 0, 0, 97)] 0 0 false (2, 9, 9, 0) (by decide)).to (offer_full (by decide))
  have c5 : AP Tryd.prog tab0 25 [linkA 8 [(7, 0, 0, 0), (1, 0, 0, 97)] 0 0 false, aggA [I 0, I 0, I 0, R 0]] (tupA [linkA 0 [] 0 0 false, I 1]) := (f_linkOffer 8 [(7, 0, 0, 0), (1, 0, 0, 97)] 0 0 false (0, 0, 0, 0) (by decide)).to (offer_no (by decide))
  have c6 : AP Tryd.prog tab0 35 [linkA 8 [(7, 0, 0, 0), (1, 0, 0, 97)] 0 0 false, I 2] (tupA [SA [27, 91], linkA 8 [(7, 0, 0, 0), (1, 0, 0, 97)] 2 0 false]) := (f_linkSend 8 [(7, 0, 0, 0), (1, 0, 0, 97)] 0 0 false 2 (by decide) (by decide)).to (send_yes (by decide) (by decide))
  have c7 : AP Tryd.prog tab0 35 [linkA 8 [(7, 0, 0, 0), (1, 0, 0, 97)] 2 0 false, I 9] (tupA [SA [75], linkA 8 [(1, 0, 0, 97)] 0 1 false]) := (f_linkSend 8 [(7, 0, 0, 0), (1, 0, 0, 97)] 2 0 false 9 (by decide) (by decide)).to (send_yes (by decide) (by decide))
  have c8 : AP Tryd.prog tab0 35 [linkA 8 [(1, 0, 0, 97)] 0 1 false, I 9] (tupA [SA [], linkA 8 [(1, 0, 0, 97)] 0 1 false]) := (f_linkSend 8 [(1, 0, 0, 97)] 0 1 false 9 (by decide) (by decide)).to (send_yes (by decide) (by decide))
  have c9 : AP Tryd.prog tab0 40 [linkA 8 [(1, 0, 0, 97)] 0 1 false] (linkA 8 [(1, 0, 0, 97)] 0 0 false) := (f_linkTick 8 [(1, 0, 0, 97)] 0 1 false (by decide)).to (congrArg (fun p => linkA 8 [(1, 0, 0, 97)] 0 p false) (by decide))
  have d1 : AP Tryd.prog tab0 35 [linkA 8 [(1, 0, 0, 97)] 0 0 false, I 9] (tupA [SA [97], linkA 8 [] 0 0 false]) := (f_linkSend 8 [(1, 0, 0, 97)] 0 0 false 9 (by decide) (by decide)).to (send_yes (by decide) (by decide))
  have d2 : AP Tryd.prog tab0 37 [linkA 8 [(7, 0, 0, 0), (1, 0, 0, 97)] 2 0 false] (tupA [linkA 8 [(7, 0, 0, 0)] 2 0 false, slA cmdT [(1, 0, 0, 97)]]) := (f_linkDrop 8 [(7, 0, 0, 0), (1, 0, 0, 97)] 2 0 false (by decide)).to (by rw [show dropK 8 [(7, 0, 0, 0), (1, 0, 0, 97)] 2 0 = [(7, 0, 0, 0)] by decide, show goneK 8 [(7, 0, 0, 0), (1, 0, 0, 97)] 2 0 = [(1, 0, 0, 97)] by decide])
  have d3 : AP Tryd.prog tab0 42 [linkA 8 [(7, 0, 0, 0), (1, 0, 0, 97)] 2 0 false, B true] (linkA 8 [(7, 0, 0, 0), (1, 0, 0, 97)] 2 0 true) := (f_linkHold 8 [(7, 0, 0, 0), (1, 0, 0, 97)] 2 0 false true (by decide)).to (congrArg (fun p => linkA 8 [(7, 0, 0, 0), (1, 0, 0, 97)] 2 0 p) (by decide))
  have d4 : AP Tryd.prog tab0 35 [linkA 8 [(7, 0, 0, 0), (1, 0, 0, 97)] 2 0 true, I 9] (tupA [SA [], linkA 8 [(7, 0, 0, 0), (1, 0, 0, 97)] 2 0 true]) := (f_linkSend 8 [(7, 0, 0, 0), (1, 0, 0, 97)] 2 0 true 9 (by decide) (by decide)).to send_off
  have d5 : AP Tryd.prog tab0 27 [I 7] (tupA [linkA 0 [] 0 0 false, I 4]) := (f_linkNew 7).to (by rw [newL, if_neg (by decide)])
  have d6 : AP Tryd.prog tab0 33 [linkA 8 [(7, 0, 0, 0)] 2 0 false] (SA [75]) := (f_linkRest 8 [(7, 0, 0, 0)] 2 0 false (by decide)).to (congrArg (fun l : List UInt8 => SA l) (by decide))
  have d7 : AP Tryd.prog tab0 39 [slA cmdT [(1, 0, 0, 97)], slA cmdT [(1, 0, 0, 97)]] (B true) := (f_ref05Same [(1, 0, 0, 97)] [(1, 0, 0, 97)] (by decide) (by decide)).to (congrArg B (by decide))
  have d8 : AP Tryd.prog tab0 31 [linkA 8 [(7, 0, 0, 0)] 2 0 false] (B true) := (f_linkIs 8 [(7, 0, 0, 0)] 2 0 false (by decide)).to (congrArg B (by decide))
  have d9 : AP Tryd.prog tab0 31 [linkA 0 [] 0 0 false] (B false) := (f_linkIs 0 [] 0 0 false (by decide)).to (congrArg B (by decide))
  have d10 : AP Tryd.prog tab0 31 [aggA [I 0, vA (.slice none 0 0), I 0, I 0, B false]] (B false) := d9.pre (subl1 sub_link subl0)
  refine af_intro Tryd.func29 rfl (by decide) Tryd.ntmps29 rfl ?_
  repeat' (first
  | fail
  | refine s_y ?_
    | refine c_ ?_
    | (refine aw_if ?_ ?_ <;> intro hb <;> try (exfalso; first | assumption | omega | (simp only [or_self, and_self, not_true_eq_false, not_false_eq_true, or_false, false_or, and_false, false_and] at hb; done)))
    | refine s_call ?_ (c := by first | exact c1 | exact c2 | exact c3 | exact c4 | exact c5 | exact c6 | exact c7 | exact c8 | exact c9 | exact d1 | exact d2 | exact d3 | exact d4 | exact d5 | exact d6 | exact d7 | exact d8 | exact d10 | fail)
    | refine s_op ?_ (hy := by first | (apply bs_cmd1 rfl un_; exact oo_; done) | (apply bs_cmd1 rfl un_; exact oog_; done) | fail)
    | refine s_yg ?_
    | refine s_callg ?_ (c := by intro hk hk2; first | exact c1 | exact c2 | exact c3 | exact c4 | exact c5 | exact c6 | exact c7 | exact c8 | exact c9 | exact d1 | exact d2 | exact d3 | exact d4 | exact d5 | exact d6 | exact d7 | exact d8 | exact d10 | fail)
    | refine s_opg ?_ (hy := by intro hk hk2; first | (apply bs_cmd1 rfl un_; exact oo_; done) | (apply bs_cmd1 rfl un_; exact oog_; done) | fail)
    | refine s_skip ?_
    | ((first | refine w_alloc ?_ | refine w_box ?_) <;> intro bb)
    | ((first | refine w_emp ?_ | refine w_make ?_ | refine w_app ?_) <;> intro u hu1 hu2)
    | refine w_stv ?_ | refine w_str ?_ | refine w_cpr ?_ | refine w_cps ?_
    | refine al_last (by kernel_rfl) ?_
  | fail)
  exact ⟨_, [], rl_, List.nil_sublist _, Sub.eq (congrArg B (by decide)), rfl⟩
theorem f_linkBig (room : Int) (l : List Cmd) (sent pad : Int) (off : Bool) : AP Tryd.prog tab0 24 [linkA room l sent pad off] (B (decide (200 < l.length))) := by
  refine af_intro Tryd.func24 rfl (by decide) Tryd.ntmps24 rfl ?_
  repeat' (first
  | fail
  | refine s_y ?_
    | refine c_ ?_
    | (refine aw_if ?_ ?_ <;> intro hb <;> try (exfalso; first | assumption | omega | (simp only [or_self, and_self, not_true_eq_false, not_false_eq_true, or_false, false_or, and_false, false_and] at hb; done)))
    | refine s_call ?_ (c := by first | fail | fail)
    | refine s_op ?_ (hy := by first | fail | fail)
    | refine s_yg ?_
    | refine s_callg ?_ (c := by intro hk hk2; first | fail | fail)
    | refine s_opg ?_ (hy := by intro hk hk2; first | fail | fail)
    | refine s_skip ?_
    | ((first | refine w_alloc ?_ | refine w_box ?_) <;> intro bb)
    | ((first | refine w_emp ?_ | refine w_make ?_ | refine w_app ?_) <;> intro u hu1 hu2)
    | refine w_stv ?_ | refine w_str ?_ | refine w_cpr ?_ | refine w_cps ?_
    | refine al_last (by kernel_rfl) ?_
  | fail)
  refine ⟨_, [], rl_, List.nil_sublist _, Sub.eq (congrArg B ?_), rfl⟩
  rw [Bool.eq_iff_iff]; simp only [decide_eq_true_eq]; omega
end Go.Proofs.YthkdpddfmnbijaaDoor
