/- Steps towards the statement StoreC. -/
import Derived.Test.YtdafdidmbeecfaaGreatDoorStoreCP29

