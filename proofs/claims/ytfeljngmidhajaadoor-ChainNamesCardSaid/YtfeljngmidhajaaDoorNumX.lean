/- A name's number: the walk of Number. -/
import Derived.Test.YtfeljngmidhajaaDoorNumW
namespace Go.Proofs.YtfeljngmidhajaaDoor
open Go.RowKit Go.Mine

def numV (r : Int × Bool) : Value := .tuple #[.int .i64 r.1, .bool r.2]

def pickN (x : ByteArray) : Lib.NumEnd Int → Int × Bool
  | .ok v => if nameS v = x then (v, true) else (0, false)
  | _ => (0, false)
theorem progN_pick (x : ByteArray) (hp : x.extract 0 6 = prefBA) : progN x = pickN x (Lib.atoiAll (x.extract 6 x.size).data.toList) := by
  unfold progN
  rw [if_pos hp]
  cases Lib.atoiAll (x.extract 6 x.size).data.toList <;> rfl

set_option maxRecDepth 100000 in
set_option maxHeartbeats 2000000 in
theorem nnumber_any (x : ByteArray) (w : World) (ht : Tab w) (he : Errs w) (hs : x.size ≤ 281474976710656) :
    Calls Tryd.prog 14 #[.string x] w fun e w' => e = .returned (numV (progN x)) ∧ Turned (fun _ => False) w w' := by
  have hcut := cut_any x w (by omega)
  by_cases hp : x.extract 0 6 = prefBA
  · have hcv : cutV x = .tuple #[.string (x.extract 6 x.size), .bool true] := by unfold cutV; rw [if_pos hp]
    rw [hcv] at hcut
    have hat := atoi_any (x.extract 6 x.size) w he (by rw [ByteArray.size_extract]; omega)
    have hpn := progN_pick x hp
    unfold prefBA at hcut
    generalize x.extract 6 x.size = d at *
    cases ha : Lib.atoiAll d.data.toList with
    | ok v =>
      have hvb := Lib.atoiAll_bounds ha
      rw [ha] at hpn
      simp only [pickN] at hpn
      have HA : Hid (∀ (e : Ending) (w' : World), (Turned (fun _ => False) w w' ∧ ((∃ v, Lib.atoiAll d.data.toList = .ok v ∧ e = .returned (.tuple #[.int .i64 v, .nilIface])) ∨ ((∀ v, Lib.atoiAll d.data.toList ≠ .ok v) ∧ ∃ n t p, e = .returned (.tuple #[.int .i64 n, .iface t p])))) → e = .returned (.tuple #[.int .i64 v, .nilIface]) ∧ Turned (fun _ => False) w w') := by
        have : ∀ (e : Ending) (w' : World), (Turned (fun _ => False) w w' ∧ ((∃ v, Lib.atoiAll d.data.toList = .ok v ∧ e = .returned (.tuple #[.int .i64 v, .nilIface])) ∨ ((∀ v, Lib.atoiAll d.data.toList ≠ .ok v) ∧ ∃ n t p, e = .returned (.tuple #[.int .i64 n, .iface t p])))) → e = .returned (.tuple #[.int .i64 v, .nilIface]) ∧ Turned (fun _ => False) w w' := fun e w' ⟨h1, h2⟩ => by
          rcases h2 with ⟨v', h3, h4⟩ | ⟨h3, -⟩
          · rw [ha] at h3
            injection h3 with h3
            subst h3
            exact ⟨h4, h1⟩
          · exact absurd ha (h3 v)
        exact this
      have hat2 : Calls Tryd.prog 38 #[.string d] w fun e w' => e = .returned (.tuple #[.int .i64 v, .nilIface]) ∧ Turned (fun _ => False) w w' := hat.mono HA.out
      have NM : Hid (∀ W, Turned (fun _ => False) w W → Calls Tryd.prog 13 #[.int .i64 v] W fun e w' => e = .returned (.string (nameS v)) ∧ Turned (fun _ => False) W w') := fun W h => name_any v hvb W (ht.turned h)
      by_cases hn : nameS v = x
      · rw [if_pos hn] at hpn
        have HR : Hid (progN x = (v, true)) := hpn
        rw [hn] at NM
        clear hpn hp hcv hat ha hvb HA hn ht he hs
        go_enter Tryd.func14, Tryd.ntmps14
        go_wp2_with (first
          | (go_at_call 37; (with_reducible refine hcut.mono ?_); rintro e w1 ⟨rfl, rfl⟩)
          | (go_at_call 38; (with_reducible refine hat2.mono ?_); rintro e w2 ⟨rfl, ht2⟩; have T2 : Hid (Turned (fun _ => False) w w2) := ht2; have h13 := NM.out w2 ht2; clear ht2)
          | (go_at_call 13; (with_reducible refine h13.mono ?_); rintro e w3 ⟨rfl, ht3⟩))
        go_ret2
        exact ⟨by rw [HR.out]; rfl, T2.out.trans ht3 fun _ _ q => q⟩
      · rw [if_neg hn] at hpn
        have HR : Hid (progN x = (0, false)) := hpn
        have hne := ba_ne2 _ _ hn
        generalize nameS v = y at *
        clear hpn hp hcv hat ha hvb HA hn ht he hs
        go_enter Tryd.func14, Tryd.ntmps14
        go_wp2_with (first
          | (go_at_call 37; (with_reducible refine hcut.mono ?_); rintro e w1 ⟨rfl, rfl⟩)
          | (go_at_call 38; (with_reducible refine hat2.mono ?_); rintro e w2 ⟨rfl, ht2⟩; have T2 : Hid (Turned (fun _ => False) w w2) := ht2; have h13 := NM.out w2 ht2; clear ht2)
          | (go_at_call 13; (with_reducible refine h13.mono ?_); rintro e w3 ⟨rfl, ht3⟩))
        go_ret2
        exact ⟨by rw [HR.out]; rfl, T2.out.trans ht3 fun _ _ q => q⟩
    | range =>
      rw [ha] at hpn
      have HR : Hid (progN x = (0, false)) := hpn
      have hat2 : Calls Tryd.prog 38 #[.string d] w fun e w' => ∃ n t p, e = .returned (.tuple #[.int .i64 n, .iface t p]) ∧ Turned (fun _ => False) w w' := hat.mono fun e w' ⟨h1, h2⟩ => by
        rcases h2 with ⟨v', h3, h4⟩ | ⟨-, n, t, p, h4⟩
        · rw [ha] at h3; simp at h3
        · exact ⟨n, t, p, h4, h1⟩
      clear hpn hp hcv hat ha ht he hs
      go_enter Tryd.func14, Tryd.ntmps14
      go_wp2_with (first
        | (go_at_call 37; (with_reducible refine hcut.mono ?_); rintro e w1 ⟨rfl, rfl⟩)
        | (go_at_call 38; (with_reducible refine hat2.mono ?_); rintro e w2 ⟨n, t, p, rfl, ht2⟩))
      go_ret2
      exact ⟨by rw [HR.out]; rfl, ht2⟩
    | _ =>
      rw [ha] at hpn
      have HR : Hid (progN x = (0, false)) := hpn
      have hat2 : Calls Tryd.prog 38 #[.string d] w fun e w' => ∃ n t p, e = .returned (.tuple #[.int .i64 n, .iface t p]) ∧ Turned (fun _ => False) w w' := hat.mono fun e w' ⟨h1, h2⟩ => by
        rcases h2 with ⟨v', h3, h4⟩ | ⟨-, n, t, p, h4⟩
        · rw [ha] at h3; simp at h3
        · exact ⟨n, t, p, h4, h1⟩
      clear hpn hp hcv hat ha ht he hs
      go_enter Tryd.func14, Tryd.ntmps14
      go_wp2_with (first
        | (go_at_call 37; (with_reducible refine hcut.mono ?_); rintro e w1 ⟨rfl, rfl⟩)
        | (go_at_call 38; (with_reducible refine hat2.mono ?_); rintro e w2 ⟨n, t, p, rfl, ht2⟩))
      go_ret2
      exact ⟨by rw [HR.out]; rfl, ht2⟩
  · have hcv : cutV x = .tuple #[.string x, .bool false] := by unfold cutV; rw [if_neg hp]
    rw [hcv] at hcut
    have HR : Hid (progN x = (0, false)) := by
      have : progN x = (0, false) := by unfold progN; rw [if_neg hp]
      exact this
    have hat2 : Calls Tryd.prog 38 #[.string x] w fun e w' => ∃ n v, e = .returned (.tuple #[.int .i64 n, v]) ∧ Turned (fun _ => False) w w' := (atoi_any x w he hs).mono fun e w' ⟨h1, h2⟩ => by
      rcases h2 with ⟨v', h3, h4⟩ | ⟨-, n, t, p, h4⟩
      · exact ⟨_, _, h4, h1⟩
      · exact ⟨_, _, h4, h1⟩
    unfold prefBA at hcut
    clear hp hcv ht he hs
    go_enter Tryd.func14, Tryd.ntmps14
    go_wp2_with (first
      | (go_at_call 37; (with_reducible refine hcut.mono ?_); rintro e w1 ⟨rfl, rfl⟩)
      | (go_at_call 38; (with_reducible refine hat2.mono ?_); rintro e w2 ⟨n, v, rfl, ht2⟩))
    go_ret2
    exact ⟨by rw [HR.out]; rfl, ht2⟩
end Go.Proofs.YtfeljngmidhajaaDoor
